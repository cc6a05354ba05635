import Derived.Test.YtgajaabakpfbbaaGreatEngT
import Derived.Test.YtgajaabakpfbbaaGreatGRCode
namespace Go.Proofs.YtgajaabakpfbbaaGreat
open Go.Eng
set_option maxRecDepth 100000
set_option linter.unusedVariables false
structure G where
 ids:List Int
 ports:List (List (Int × Int))
def gI (l:List Int) (i:Nat):Int:=l.getD i 0
def gF (l:List (Int × Int)) (i:Nat):Int × Int:=l.getD i (0,0)
def gR (l:List (List (Int × Int))) (i:Nat):List (Int × Int):=l.getD i []
def vI (l:List Int):Nat→Nat→V:=fun i _=>.int .i64 (gI l i)
def vF (l:List (Int × Int)):Nat→Nat→V:=fun i j=>match j with
 | 0=>.int .i64 (gF l i).1
 | _ + 1=>.int .i64 (gF l i).2
def vP (p:List (List (Int × Int))):Nat→Nat→V:=fun i _=>.fz (gR p i).length 2 false (vF (gR p i))
def G.v (g:G):V:=.agg [.fz g.ids.length 1 false (vI g.ids),.fz g.ports.length 1 false (vP g.ports)]
def okID (i:Int):Bool:=decide (0≤i∧i≤255)
def okL (n v:Nat) (l:Int × Int):Bool:=decide (0≤l.1∧l.1 < n∧l.1≠v∧1≤l.2∧l.2≤15)
def okR (n v:Nat) (r:List (Int × Int)):Bool:=r.all (okL n v) && decide (r.map (·.1)).Nodup
def symL (p:List (List (Int × Int))) (v:Nat) (l:Int × Int):Bool:=decide (((v:Int),l.2)∈gR p l.1.toNat)
def idsOk (l:List Int):Bool:=l.all okID && decide l.Nodup
def rowsOk (p:List (List (Int × Int))):Bool:=decide (∀ v,v < p.length→okR p.length v (gR p v) = true)
def symOk (p:List (List (Int × Int))):Bool:=decide (∀ v,v < p.length→∀ l,l∈gR p v→symL p v l = true)
def portsOk (p:List (List (Int × Int))):Bool:=rowsOk p && symOk p
def G.valid (g:G):Bool:=decide (1≤g.ids.length∧g.ids.length≤24∧g.ports.length = g.ids.length) && (idsOk g.ids && portsOk g.ports)
theorem gI_take (l:List Int) (i:Nat) (h:i < l.length):l.take (i + 1) = l.take i ++ [gI l i]:=by
 rw [List.take_succ_eq_append_getElem h];simp only [gI,List.getD,List.getElem?_eq_getElem h,Option.getD_some]
theorem gF_take (l:List (Int × Int)) (i:Nat) (h:i < l.length):l.take (i + 1) = l.take i ++ [gF l i]:=by
 rw [List.take_succ_eq_append_getElem h];simp only [gF,List.getD,List.getElem?_eq_getElem h,Option.getD_some]
theorem gI_mem {l:List Int} {i:Nat} (h:i < l.length):gI l i∈l:=by
 simp only [gI,List.getD,List.getElem?_eq_getElem h];exact List.getElem_mem h
theorem gF_mem {l:List (Int × Int)} {i:Nat} (h:i < l.length):gF l i∈l:=by
 simp only [gF,List.getD,List.getElem?_eq_getElem h];exact List.getElem_mem h
theorem gI_get {l:List Int} {x:Int} (h:x∈l):∃ i,i < l.length∧gI l i = x:=by
 obtain ⟨i,hi,he⟩:=List.mem_iff_getElem.1 h;exact ⟨i,hi,by simp only [gI,List.getD,List.getElem?_eq_getElem hi,Option.getD_some];exact he⟩
def seenF (l:List Int):Nat→Nat→V:=fun j _=>.bool (decide ((j:Int)∈l))
theorem seen_set (l:List Int) (a:Int) (i j:Nat) (k:Nat) (ha:0≤a) (hk:k = a.toNat) (hj:j < 1):VLe (fset (seenF l) k 0 [.bool true] i j) (seenF (l ++ [a]) i j):=by
 apply VLe.of_eq;subst hk;have hj0:j = 0:=by omega
 subst hj0;by_cases h:i = a.toNat
 . subst h;have e:((a.toNat:Nat):Int) = a:=by omega
   simp only [fset,seenF,e];simp
 . have:¬ (i:Int) = a:=by omega
   simp [fset,seenF,h,this]
theorem idsOk_iff (l:List Int):idsOk l = true↔(∀ a∈l,0≤a∧a≤255)∧l.Nodup:=by
 simp [idsOk,okID]
theorem ids_bad {l:List Int} (i:Nat) (h:i < l.length) (hb:¬ (0≤gI l i∧gI l i≤255)∨gI l i∈l.take i):VLe (V.bool false) (V.bool (idsOk l)):=by
 refine VLe.bool ?_;symm;rw [← Bool.not_eq_true,idsOk_iff];rintro ⟨h1,h2⟩;rcases hb with hb | hb
 . exact hb (h1 _ (gI_mem h))
 . have:=gI_take l i h;have hn:(l.take (i + 1)).Nodup:=h2.sublist (List.take_sublist _ _);rw [this,List.nodup_append] at hn;exact hn.2.2 _ hb _ (by simp) rfl
theorem diff_ok (l:List Int) (hl:l.length≤1000000):Ret Tryz.prog 96 [.fz l.length 1 false (vI l)] (.bool (idsOk l)):=by
 refine ret_frz rfl ?_;refine fn_rule mixed Tryz.func96 rfl hc96 hr96 rfl ?_
 repeat' ((conv=>whnf);first | fail)
 all_goals (conv=>whnf)
 refine loop_w mixed [3,6,7] [] [1,2,3,4,5,6,7,8,9,10,11,12,13,14,15,16,17,18,19,20,21,22,23,24,25,26,27,28,29] [0] (fun i:Nat=>[(8,.int .i64 i)]) (fun i=>[(0,.vec 256 1 (seenF (l.take i)))])
  (fun n i=>n = l.length - i∧i≤l.length∧(∀ a∈l.take i,0≤a∧a≤255)∧(l.take i).Nodup) l.length 0 ⟨rfl,Nat.zero_le _,by simp,by simp⟩ rfl (fun _=>rfl) ?_ ?_
 . refine weak_by (fun _ _=>[(0,some 0)]) ?_ ?_ rfl
   . repeat' (first | exact True.intro | exact VRen.oel rfl rfl | (refine ⟨⟨_,rfl,?_⟩,?_⟩) | exact VRen.kf rfl)
   . repeat' (first | exact VLe.of_eq (by simp [seenF]) | exact True.intro | (refine ⟨⟨_,rfl,?_⟩,?_⟩) | (refine ⟨Nat.le_refl _,rfl,fun i j hi hj=>?_⟩))
 rintro n i ⟨hn,hi,hb,hd⟩
 repeat' ((conv=>whnf);first | (refine Br.dec ?_ ?_ <;> intro _ <;> try omega) | (refine Ar.i64 (by omega) (by omega) ?_) | (refine Ix.nat (by omega) ?_) | (refine Ix.int (by omega) (by omega) ?_) | (refine Ltn.mk (by omega) ?_))
 all_goals (conv=>whnf)
 . exact ids_bad i (by omega) (.inl (by omega))
 . exact ids_bad i (by omega) (.inl (by omega))
 . exact ids_bad i (by omega) (.inr (by rename_i h;rwa [show (((gI l i).toNat:Nat):Int) = gI l i by omega] at h))
 . rename_i hni;rw [show (((gI l i).toNat:Nat):Int) = gI l i by omega] at hni;refine ⟨l.length - (i + 1),i + 1,by omega,⟨rfl,by omega,?_,?_⟩,?_⟩
   . rw [gI_take l i (by omega)];intro a ha;rcases List.mem_append.1 ha with h | h
     . exact hb a h
     . rw [List.mem_singleton.1 h];omega
   . rw [gI_take l i (by omega),List.nodup_append];exact ⟨hd,by simp,fun a ha b hb' e=>hni (by rw [List.mem_singleton.1 hb'] at e;rw [← e];exact ha)⟩
   . simp only [gI_take l i (by omega)];refine weak_by (fun _ _=>[(0,some 0)]) ?_ ?_ rfl
     . repeat' (first | exact True.intro | exact VRen.oel rfl rfl | (refine ⟨⟨_,rfl,?_⟩,?_⟩) | exact VRen.kf rfl)
     . repeat' (first | exact seen_set _ _ _ _ _ (by omega) rfl hj | exact True.intro | (refine ⟨⟨_,rfl,?_⟩,?_⟩) | (refine ⟨Nat.le_refl _,rfl,fun i j hi hj=>?_⟩))
 . rw [List.take_of_length_le (by omega)] at hb hd;exact VLe.bool ((idsOk_iff l).2 ⟨hb,hd⟩).symm
abbrev Ent:=(Int × Int) × V
def entR (u:Nat) (r:List (Int × Int)):List Ent:=r.map fun l=>(((u:Int),l.1),V.int .i64 l.2)
def ents (p:List (List (Int × Int))):Nat→List Ent
 | 0=>[]
 | v + 1=>ents p v ++ entR v (gR p v)
theorem entR_snoc (u:Nat) (r:List (Int × Int)) (l:Int × Int):entR u (r ++ [l]) = entR u r ++ [(((u:Int),l.1),V.int .i64 l.2)]:=by simp [entR]
theorem mem_entR {u:Nat} {r:List (Int × Int)} {e:Ent}:e∈entR u r↔∃ l∈r,e = (((u:Int),l.1),V.int .i64 l.2):=by
 simp only [entR,List.mem_map];exact ⟨fun ⟨l,h,e⟩=>⟨l,h,e.symm⟩,fun ⟨l,h,e⟩=>⟨l,h,e.symm⟩⟩
theorem mem_ents {p:List (List (Int × Int))} {e:Ent}:∀ {v:Nat},e∈ents p v↔∃ u,u < v∧∃ l∈gR p u,e = (((u:Int),l.1),V.int .i64 l.2)
 | 0=>by simp [ents]
 | v + 1=>by
   simp only [ents,List.mem_append,mem_ents (v:=v),mem_entR];constructor
   . rintro (⟨u,h,x⟩ | x)
     . exact ⟨u,by omega,x⟩
     . exact ⟨v,by omega,x⟩
   . rintro ⟨u,h,x⟩;by_cases hu:u = v
     . subst hu;exact .inr x
     . exact .inl ⟨u,by omega,x⟩
theorem mfind_some:∀ {es:List Ent} {p:Int × Int} {x:V},mfind es p = some x→(p,x)∈es
 | [],_,_,h=>by simp [mfind] at h
 | (q,u) :: r,p,x,h=>by
   simp only [mfind] at h;split at h
   . rename_i e;cases h;subst e;simp
   . exact List.mem_cons_of_mem _ (mfind_some h)
theorem mfind_none:∀ {es:List Ent} {p:Int × Int},mfind es p = none→∀ x,(p,x) ∉ es
 | [],_,_,_=>by simp
 | (q,u) :: r,p,h,x=>by
   simp only [mfind] at h;split at h
   . cases h
   . rename_i e;intro hm;rcases List.mem_cons.1 hm with e' | e'
     . cases e';exact e rfl
     . exact mfind_none h x e'
theorem mput_none:∀ {es:List Ent} {p:Int × Int} {y:V},mfind es p = none→mput es p y = es ++ [(p,y)]
 | [],_,_,_=>rfl
 | (q,u) :: r,p,y,h=>by
   simp only [mfind] at h;split at h
   . cases h
   . rename_i e;simp only [mput,if_neg e,List.cons_append,mput_none h]
def Ints (es:List Ent):Prop:=∀ e∈es,∃ w:Int,e.2 = V.int .i64 w
theorem ints_ents (p:List (List (Int × Int))) (v:Nat):Ints (ents p v):=fun e he=>by
 obtain ⟨u,_,l,_,rfl⟩:=mem_ents.1 he;exact ⟨_,rfl⟩
theorem ints_more (p:List (List (Int × Int))) (v:Nat) (r:List (Int × Int)):Ints (ents p v ++ entR v r):=fun e he=>by
 rcases List.mem_append.1 he with he | he
 . exact ints_ents p v e he
 . obtain ⟨l,_,rfl⟩:=mem_entR.1 he;exact ⟨_,rfl⟩
theorem mget_ints {es:List Ent} {p:Int × Int} {A:V→Prop} {B:Prop} (hi:Ints es) (h1:∀ w:Int,mfind es p = some (.int .i64 w)→A (.int .i64 w)) (h2:mfind es p = none→B):MGet (mfind es p) A B :=
 ⟨fun v hv=>by
   obtain ⟨w,hw⟩:=hi _ (mfind_some hv);simp only at hw;subst hw;exact h1 w hv,h2⟩
theorem mnext_ints {n:Nat} {idxs:List Nat} {es:List Ent} {A:Nat→Ent→Prop} {B:Prop} (hi:Ints es) (h1:∀ i (a b w:Int),i < n→i ∉ idxs→es[i]? = some ((a,b),V.int .i64 w)→A i ((a,b),V.int .i64 w)) (h2:(∀ i,i < n→i∈idxs)→B):MNext n idxs es A B :=
 ⟨fun i p h3 h4 h5=>by
   obtain ⟨⟨a,b⟩,x⟩:=p;obtain ⟨w,hw⟩:=hi _ (List.mem_of_getElem? h5);simp only at hw;subst hw;exact h1 i a b w h3 h4 h5,h2⟩
theorem okR_iff {n v:Nat} {r:List (Int × Int)}:okR n v r = true↔(∀ l∈r,0≤l.1∧l.1 < n∧l.1≠v∧1≤l.2∧l.2≤15)∧(r.map (·.1)).Nodup:=by
 simp only [okR,okL,Bool.and_eq_true,List.all_eq_true,decide_eq_true_eq]
theorem rowsOk_iff {p:List (List (Int × Int))}:rowsOk p = true↔∀ v,v < p.length→okR p.length v (gR p v) = true:=by simp [rowsOk]
theorem symOk_iff {p:List (List (Int × Int))}:symOk p = true↔∀ v,v < p.length→∀ l∈gR p v,((v:Int),l.2)∈gR p l.1.toNat:=by
 simp only [symOk,symL,decide_eq_true_eq]
theorem fst_uniq {r:List (Int × Int)} (h:(r.map (·.1)).Nodup) {a b:Int × Int} (ha:a∈r) (hb:b∈r) (e:a.1 = b.1):a = b:=by
 induction r with
 | nil=>simp at ha
 | cons x r ih =>
   simp only [List.map_cons,List.nodup_cons] at h;rcases List.mem_cons.1 ha with ea | ha
   . rcases List.mem_cons.1 hb with eb | hb
     . rw [ea,eb]
     . exact (h.1 (List.mem_map.2 ⟨b,hb,by rw [← e,ea]⟩)).elim
   . rcases List.mem_cons.1 hb with eb | hb
     . exact (h.1 (List.mem_map.2 ⟨a,ha,by rw [e,eb]⟩)).elim
     . exact ih h.2 ha hb
theorem sym_ents {p:List (List (Int × Int))} (hr:∀ v,v < p.length→okR p.length v (gR p v) = true) :
 symOk p = true↔∀ e∈ents p p.length,mfind (ents p p.length) (e.1.2,e.1.1) = some e.2:=by
 rw [symOk_iff];constructor
 . intro h e he;obtain ⟨u,hu,l,hl,rfl⟩:=mem_ents.1 he;obtain ⟨hL,_⟩:=okR_iff.1 (hr u hu);have hb:=hL l hl;have hm:=h u hu l hl;have hto:l.1.toNat < p.length:=by omega
   have e1:((l.1.toNat:Nat):Int) = l.1:=by omega
   simp only;cases hf:mfind (ents p p.length) (l.1,(u:Int)) with
   | none=>exact (mfind_none hf _ (mem_ents.2 ⟨l.1.toNat,hto,_,hm,by rw [e1]⟩)).elim
   | some x =>
     obtain ⟨u',hu',l',hl',he'⟩:=mem_ents.1 (mfind_some hf);simp only [Prod.mk.injEq] at he';obtain ⟨⟨a1,a2⟩,a3⟩:=he';have:u' = l.1.toNat:=by omega
     subst this;have:=fst_uniq (okR_iff.1 (hr _ hu')).2 hm hl' a2;rw [a3,← this]
 . intro h v hv l hl;have:=h _ (mem_ents.2 ⟨v,hv,l,hl,rfl⟩);simp only at this;obtain ⟨u',hu',l',hl',he'⟩:=mem_ents.1 (mfind_some this);simp only [Prod.mk.injEq,V.int.injEq,true_and] at he';obtain ⟨⟨a1,a2⟩,a3⟩:=he';have:l.1.toNat = u':=by omega
   rw [this];have:((v:Int),l.2) = l':=Prod.ext a2 a3;rw [this];exact hl'
theorem ports_row {p:List (List (Int × Int))} (v:Nat) (hv:v < p.length) (h:okR p.length v (gR p v) = false):VLe (V.bool false) (V.bool (portsOk p)):=by
 refine VLe.bool ?_;symm;rw [portsOk,Bool.and_eq_false_iff];left;rw [← Bool.not_eq_true,rowsOk_iff];intro hh;rw [hh v hv] at h;cases h
theorem row_bad {n v:Nat} {r:List (Int × Int)} (j:Nat) (hj:j < r.length) (h:¬ (0≤(gF r j).1∧(gF r j).1 < n∧(gF r j).1≠v∧1≤(gF r j).2∧(gF r j).2≤15)):okR n v r = false:=by
 rw [← Bool.not_eq_true,okR_iff];exact fun hh=>h (hh.1 _ (gF_mem hj))
theorem row_twice {n v:Nat} {r:List (Int × Int)} (j:Nat) (hj:j < r.length) (h:(gF r j).1∈(r.take j).map (·.1)):okR n v r = false:=by
 rw [← Bool.not_eq_true,okR_iff];rintro ⟨_,hn⟩;have:=(hn.sublist ((List.take_sublist (j + 1) r).map _));rw [gF_take r j hj,List.map_append,List.nodup_append] at this;exact this.2.2 _ h _ (by simp) rfl
theorem gR_len {p:List (List (Int × Int))} {k:Nat} (h:∀ r∈p,r.length≤k) (v:Nat):(gR p v).length≤k:=by
 simp only [gR,List.getD];cases hv:p[v]? with
 | none=>simp
 | some r=>exact h r (List.mem_of_getElem? hv)
theorem idx_le {n:Nat} {l:List Nat} (hn:l.Nodup) (hb:∀ i∈l,i < n):l.length≤n:=by
 induction n generalizing l with
 | zero =>
   cases l with
   | nil=>simp
   | cons a l=>have:=hb a (by simp);omega
 | succ n ih =>
   have h1:=ih (l:=l.erase n) (hn.erase _) (fun i hi=>by
    have h2:=hb i (List.mem_of_mem_erase hi);have h3:i≠n:=fun e=>by subst e;exact (hn.not_mem_erase) hi
    omega)
   rw [List.length_erase] at h1;split at h1 <;> omega
set_option maxHeartbeats 4000000 in
theorem sym_ok (p:List (List (Int × Int))) (hp:p.length≤24) (hr:∀ r∈p,r.length≤9223372036854775807):Ret Tryz.prog 97 [.fz p.length 1 false (vP p)] (.bool (portsOk p)):=by
 refine ret_frz rfl ?_;refine fn_rule mixed Tryz.func97 rfl hc97 hr97 rfl ?_
 repeat' ((conv=>whnf);first | fail)
 all_goals (conv=>whnf)
 refine loop_w mixed [0,3,14,15] [] [1,2,3,4,5,6,7,8,9,10,11,12,13,14,15,16,17,18,19,20,21,22,23,24,25,26,27,28,29] [0] (fun i:Nat=>[(16,.int .i64 i)]) (fun i=>[(0,.map (.pair .i64) (ents p i))])
  (fun n i=>n = p.length - i∧i≤p.length∧∀ v,v < i→okR p.length v (gR p v) = true) p.length 0 ⟨rfl,Nat.zero_le _,fun v h=>by omega⟩ rfl (fun _=>rfl) ?_ ?_
 . exact weak_b (fun _ _=>[(0,some 0)])
 rintro n v ⟨hn,hv,hrow⟩;have hrl:=gR_len hr v
 repeat' ((conv=>whnf);first | (refine Br.dec ?_ ?_ <;> intro _ <;> try omega) | (refine Ix.nat (by omega) ?_))
 all_goals (conv=>whnf)
 . refine loop_w mixed [0,3,4,14,15,16,21,22] [] [1,2,3,4,5,6,7,8,9,10,11,12,13,14,15,16,17,18,19,20,21,22,23,24,25,26,27,28,29] [0] (fun j:Nat=>[(23,.int .i64 j)]) (fun j=>[(0,.map (.pair .i64) (ents p v ++ entR v ((gR p v).take j)))])
    (fun n j=>n = (gR p v).length - j∧j≤(gR p v).length∧okR p.length v ((gR p v).take j) = true) (gR p v).length 0 ⟨rfl,Nat.zero_le _,by simp [okR]⟩ rfl (fun _=>rfl) ?_ ?_
   . refine weak_by (fun _ _=>[(0,some 0)]) ?_ ?_ rfl
     . repeat' (first | exact True.intro | exact VRen.map rfl | (refine ⟨⟨_,rfl,?_⟩,?_⟩) | exact VRen.kf rfl)
     . repeat' (first | exact ⟨rfl,by simp [entR]⟩ | exact True.intro | (refine ⟨⟨_,rfl,?_⟩,?_⟩))
   rintro n j ⟨hn,hj,hok⟩
   repeat' ((conv=>whnf);first | (refine Br.dec ?_ ?_ <;> intro _ <;> try omega) | (refine Ar.i64 (by omega) (by omega) ?_) | (refine Ix.nat (by omega) ?_) | (refine mget_ints (ints_more _ _ _) (fun w hw=>?_) (fun hw=>?_)))
   all_goals (conv=>whnf)
   . exact ports_row v (by omega) (row_bad j (by omega) (by omega))
   . exact ports_row v (by omega) (row_bad j (by omega) (by omega))
   . exact ports_row v (by omega) (row_bad j (by omega) (by omega))
   . exact ports_row v (by omega) (row_bad j (by omega) (by omega))
   . exact ports_row v (by omega) (row_bad j (by omega) (by omega))
   . refine ports_row v (by omega) (row_twice j (by omega) ?_);rcases List.mem_append.1 (mfind_some hw) with h | h
     . obtain ⟨u,hu,l,_,he⟩:=mem_ents.1 h;simp only [Prod.mk.injEq] at he;omega
     . obtain ⟨l,hl,he⟩:=mem_entR.1 h;simp only [Prod.mk.injEq] at he;exact List.mem_map.2 ⟨l,hl,he.1.2.symm⟩
   . have hnin:(gF (gR p v) j).1 ∉ ((gR p v).take j).map (·.1):=fun h=>by
      obtain ⟨l,hl,he⟩:=List.mem_map.1 h;refine mfind_none hw (.int .i64 l.2) (List.mem_append_right _ (mem_entR.2 ⟨l,hl,?_⟩));rw [he]
     refine ⟨(gR p v).length - (j + 1),j + 1,by omega,⟨rfl,by omega,?_⟩,?_⟩
     . rw [okR_iff] at hok ⊢;rw [gF_take _ j (by omega)];refine ⟨fun l hl=>?_,?_⟩
       . rcases List.mem_append.1 hl with h | h
         . exact hok.1 l h
         . rw [List.mem_singleton.1 h];omega
       . rw [List.map_append,List.nodup_append];refine ⟨hok.2,by simp,fun a ha b hb e=>hnin ?_⟩;simp only [List.map_cons,List.map_nil,List.mem_singleton] at hb;rw [← hb,← e];exact ha
     . have e1:ents p v ++ entR v ((gR p v).take (j + 1)) = mput (ents p v ++ entR v ((gR p v).take j)) ((v:Int),(gF (gR p v) j).1) (.int .i64 (gF (gR p v) j).2):=by
        rw [mput_none hw,gF_take _ j (by omega),entR_snoc,List.append_assoc]
       simp only [e1];exact weak_b (fun _ _=>[(0,some 0)])
   . have hfull:(gR p v).take j = gR p v:=List.take_of_length_le (by omega);rw [hfull] at hok;refine ⟨p.length - (v + 1),v + 1,by omega,⟨rfl,by omega,fun u hu=>?_⟩,?_⟩
     . by_cases e:u = v
       . subst e;exact hok
       . exact hrow u (by omega)
     . refine weak_by (fun _ _=>[(0,some 0)]) ?_ ?_ rfl
       . repeat' (first | exact True.intro | exact VRen.map rfl | (refine ⟨⟨_,rfl,?_⟩,?_⟩) | exact VRen.kf rfl)
       . repeat' (first | exact ⟨rfl,by rw [hfull];rfl⟩ | exact True.intro | (refine ⟨⟨_,rfl,?_⟩,?_⟩))
 . have hvp:v = p.length:=by omega
   subst hvp;have hse:=sym_ents hrow;have hro:rowsOk p = true:=rowsOk_iff.2 hrow;refine loop_w mixed [3,69] [] [2,3,4,5,6,7,8,9,10,11,12,13,14,15,16,17,18,19,20,21,22,23,24,25,26,27,28,29] [1,0] (fun _:List Nat=>[]) (fun ix=>[(1,.iter 0 (ents p p.length).length ix),(0,.map (.pair .i64) (ents p p.length))])
    (fun n ix=>n = (ents p p.length).length - ix.length∧ix.Nodup∧(∀ i∈ix,i < (ents p p.length).length)∧∀ i∈ix,∀ e,(ents p p.length)[i]? = some e→mfind (ents p p.length) (e.1.2,e.1.1) = some e.2)
    (ents p p.length).length [] ⟨rfl,by simp,by simp,by simp⟩ rfl (fun _=>rfl) ?_ ?_
   . exact weak_b (fun _ _=>[(1,some 1),(0,some 0)])
   rintro n ix ⟨hn',hnd,hlt,hix⟩
   repeat' ((conv=>whnf);first | (refine Br.bne ?_ ?_ <;> intro _ <;> try omega) | (refine Ix.mk 0 rfl (by omega) ?_) | (refine Ix.mk 1 rfl (by omega) ?_) | (refine Chk.mk (Nat.beq_refl _) ?_) | (refine mnext_ints (ints_ents _ _) (fun i a b w hi hni he=>?_) (fun hall=>?_)) | (refine ⟨_,List.getLast?_concat,_,‹_›,?_⟩) | (refine mget_ints (ints_ents _ _) (fun w' hw=>?_) (fun hw=>?_)))
   all_goals (conv=>whnf)
   . refine VLe.bool ?_;symm;rw [portsOk,Bool.and_eq_false_iff];right;rw [← Bool.not_eq_true,hse];intro hh;have:=hh _ (List.mem_of_getElem? he);rw [hw] at this;simp at this;contradiction
   . rename_i hww;refine ⟨(ents p p.length).length - (ix ++ [i]).length,ix ++ [i],?_,⟨rfl,?_,?_,?_⟩,?_⟩
     . have h1:(ix ++ [i]).Nodup:=List.nodup_append.2 ⟨hnd,by simp,fun a ha b hb e=>hni (by rw [List.mem_singleton.1 hb] at e;rw [← e];exact ha)⟩;have:=idx_le h1 (n:=(ents p p.length).length) (fun k hk=>by
        rcases List.mem_append.1 hk with h | h
        . exact hlt k h
        . rw [List.mem_singleton.1 h];exact hi)
       simp at this ⊢;omega
     . exact List.nodup_append.2 ⟨hnd,by simp,fun a ha b hb e=>hni (by rw [List.mem_singleton.1 hb] at e;rw [← e];exact ha)⟩
     . intro k hk;rcases List.mem_append.1 hk with h | h
       . exact hlt k h
       . rw [List.mem_singleton.1 h];exact hi
     . intro k hk e hke;rcases List.mem_append.1 hk with h | h
       . exact hix k h e hke
       . rw [List.mem_singleton.1 h,he] at hke;cases hke;rw [hw,hww]
     . exact weak_b (fun _ _=>[(1,some 1),(0,some 0)])
   . refine VLe.bool ?_;symm;rw [portsOk,Bool.and_eq_false_iff];right;rw [← Bool.not_eq_true,hse];intro hh;have:=hh _ (List.mem_of_getElem? he);rw [hw] at this;cases this
   . exfalso;obtain ⟨u,hu,l,hl,he'⟩:=mem_ents.1 (List.mem_of_getElem? he);have:=(okR_iff.1 (hrow u hu)).1 l hl;simp only [Prod.mk.injEq,V.int.injEq,true_and] at he';omega
   . refine VLe.bool ?_;symm;rw [portsOk,Bool.and_eq_true];refine ⟨hro,hse.2 fun e he=>?_⟩;obtain ⟨k,hk,hke⟩:=List.mem_iff_getElem.1 he;exact hix k (hall k hk) e (by rw [← hke];simp [hk])
structure G.Small (g:G):Prop where
 ids:g.ids.length≤9223372036854775807
 ports:g.ports.length≤9223372036854775807
 rows:∀ r∈g.ports,r.length≤9223372036854775807
theorem valid_ok (g:G) (hs:g.Small):Ret Tryz.prog 73 [g.v] (.bool g.valid):=by
 refine ret_frz rfl ?_;refine fn_rule mixed Tryz.func73 rfl hc73 hr73 rfl ?_;have s1:=hs.ids;have s2:=hs.ports;by_cases h:1≤g.ids.length∧g.ids.length≤24∧g.ports.length = g.ids.length
 . rw [G.valid,decide_eq_true h,Bool.true_and];have h1:=diff_ok g.ids (by omega);have h2:=sym_ok g.ports (by omega) hs.rows;revert h1 h2;generalize idsOk g.ids = b1;generalize portsOk g.ports = b2;intro h1 h2;cases b1 <;> cases b2 <;>
   repeat' ((conv=>whnf);first | (refine Br.tt ?_) | (refine Br.ff ?_) | (refine Br.dec ?_ ?_ <;> intro _ <;> try omega) | (refine Br.bne ?_ ?_ <;> intro _ <;> try omega) | (refine (h1 _ _).mono ?_;rintro _ _ _ ⟨rfl,rfl,rfl⟩) | (refine (h2 _ _).mono ?_;rintro _ _ _ ⟨rfl,rfl,rfl⟩))
   all_goals (conv=>whnf)
   all_goals exact VLe.rfl
 . rw [G.valid,decide_eq_false h,Bool.false_and]
   repeat' ((conv=>whnf);first | (refine Br.dec ?_ ?_ <;> intro _ <;> try omega) | (refine Br.bne ?_ ?_ <;> intro _ <;> try omega))
   all_goals (conv=>whnf)
   all_goals exact VLe.rfl
theorem okR_len {n v:Nat} {r:List (Int × Int)} (hv:v < n) (h:okR n v r = true):r.length < n:=by
 obtain ⟨h1,h2⟩:=okR_iff.1 h;have hnd:(v :: (r.map fun l=>l.1.toNat)).Nodup:=by
  refine List.nodup_cons.2 ⟨fun hm=>?_,?_⟩
  . obtain ⟨l,hl,e⟩:=List.mem_map.1 hm;have:=h1 l hl;omega
  . have:∀ (q:List (Int × Int)),(∀ l∈q,0≤l.1)→(q.map (·.1)).Nodup→(q.map fun l=>l.1.toNat).Nodup:=by
     intro q
     induction q with
     | nil=>intro _ _;simp
     | cons x q ih =>
       intro hq hn;simp only [List.map_cons,List.nodup_cons] at hn ⊢;refine ⟨fun hm=>?_,ih (fun l hl=>hq l (by simp [hl])) hn.2⟩;obtain ⟨l,hl,e⟩:=List.mem_map.1 hm;refine hn.1 (List.mem_map.2 ⟨l,hl,?_⟩);have a:=hq l (by simp [hl]);have b:=hq x (by simp);omega
    exact this r (fun l hl=>(h1 l hl).1) h2
 have:=idx_le hnd (n:=n) (fun i hi=>by
  rcases List.mem_cons.1 hi with e | e
  . omega
  . obtain ⟨l,hl,rfl⟩:=List.mem_map.1 e;have:=h1 l hl;omega)
 simp at this;omega
abbrev Cf:=List (List Int)
def gC (c:Cf) (i:Nat):List Int:=c.getD i []
def vC (c:Cf):Nat→Nat→V:=fun i _=>.fz (gC c i).length 1 false (vI (gC c i))
def cV (c:Cf):V:=.fz c.length 1 false (vC c)
structure CSmall (c:Cf):Prop where
 len:c.length≤9223372036854775807
 rows:∀ r∈c,r.length≤9223372036854775807
theorem gC_len {c:Cf} (h:CSmall c) (v:Nat):(gC c v).length≤9223372036854775807:=by
 simp only [gC,List.getD];cases hv:c[v]? with
 | none=>simp
 | some r=>exact h.rows r (List.mem_of_getElem? hv)
def conf (n m:Nat) (B:Nat→Nat→Int × Int) (c:Cf):Bool :=
 decide (c.length = n) && decide (∀ v,v < n→(gC c v).length = m∧∀ x,x < m→(B v x).1≤gI (gC c v) x∧gI (gC c v) x≤(B v x).2)
theorem conf_iff {n m:Nat} {B:Nat→Nat→Int × Int} {c:Cf}:conf n m B c = true↔c.length = n∧∀ v,v < n→(gC c v).length = m∧∀ x,x < m→(B v x).1≤gI (gC c v) x∧gI (gC c v) x≤(B v x).2:=by
 simp only [conf,Bool.and_eq_true,decide_eq_true_eq]
theorem conf_no {n m:Nat} {B:Nat→Nat→Int × Int} {c:Cf} (h:¬ (c.length = n∧∀ v,v < n→(gC c v).length = m∧∀ x,x < m→(B v x).1≤gI (gC c v) x∧gI (gC c v) x≤(B v x).2)):conf n m B c = false:=by
 rw [← Bool.not_eq_true,conf_iff];exact h
def bG (g:G) (gs:List Int) (v x:Nat):Int × Int:=if gI gs x = -1 then (-1,((gR g.ports v).length:Int) - 1) else (0,gI gs x)
set_option maxHeartbeats 4000000 in
theorem bconf_ok (g:G) (hs:g.Small) (hp:g.ports.length = g.ids.length) (c:Cf) (hc:CSmall c) (gs:List Int) (hg:gs.length≤1000) :
 Ret Tryz.prog 82 [g.v,cV c,.fz gs.length 1 false (vI gs)] (.bool (conf g.ids.length gs.length (bG g gs) c)):=by
 have s1:=hs.ids;have s2:=hc.len;refine ret_frz rfl ?_;refine fn_rule mixed Tryz.func82 rfl hc82 hr82 rfl ?_
 repeat' ((conv=>whnf);first | (refine Br.bne ?_ ?_ <;> intro _ <;> try omega))
 all_goals (conv=>whnf)
 . exact VLe.bool (conf_no (fun h=>by omega)).symm
 refine loop_r mixed [2,3,19,20] (fun i:Nat=>[(21,.int .i64 i)]) (fun m v=>m = c.length - v∧v≤c.length∧∀ u,u < v→(gC c u).length = gs.length∧∀ x,x < gs.length→(bG g gs u x).1≤gI (gC c u) x∧gI (gC c u) x≤(bG g gs u x).2) c.length 0 ⟨rfl,Nat.zero_le _,fun u hu=>by omega⟩ ?_ ?_
 . exact weak_b (fun _ _=>[(0,some 0)])
 rintro m v ⟨hm,hv,hall⟩;have hcl:=gC_len hc v;have hrl:=gR_len hs.rows v
 repeat' ((conv=>whnf);first | (refine Br.dec ?_ ?_ <;> intro _ <;> try omega) | (refine Br.bne ?_ ?_ <;> intro _ <;> try omega) | (refine Ix.nat (by omega) ?_))
 all_goals (conv=>whnf)
 . rename_i hne;exact VLe.bool (conf_no (fun h=>hne (by have:=(h.2 v (by omega)).1;omega))).symm
 . refine loop_r mixed [2,3,7,19,20,21,31,32] (fun i:Nat=>[(33,.int .i64 i)]) (fun m x=>m = gs.length - x∧x≤gs.length∧∀ y,y < x→(bG g gs v y).1≤gI (gC c v) y∧gI (gC c v) y≤(bG g gs v y).2) gs.length 0 ⟨rfl,Nat.zero_le _,fun u hu=>by omega⟩ ?_ ?_
   . exact weak_b (fun _ _=>[(0,some 0)])
   rintro m x ⟨hm,hx,hrow⟩;have hb:bG g gs v x = if gI gs x = -1 then (-1,((gR g.ports v).length:Int) - 1) else (0,gI gs x):=rfl
   repeat' ((conv=>whnf);first | (refine Br.dec ?_ ?_ <;> intro _ <;> try omega) | (refine Ar.i64 (by omega) (by omega) ?_) | (refine Ix.nat (by omega) ?_) | (refine And.intro rfl ?_))
   all_goals (conv=>whnf)
   all_goals try (exfalso;omega)
   all_goals first
    | (refine VLe.bool (conf_no (fun h=>?_)).symm;have:=(h.2 v (by omega)).2 x (by omega);rw [hb] at this;split at this <;> simp only at this <;> omega)
    | (refine ⟨gs.length - (x + 1),x + 1,by omega,⟨rfl,by omega,fun y hy=>?_⟩,?_⟩
       . by_cases e:y = x
         . subst e;rw [hb];split <;> simp only <;> omega
         . exact hrow y (by omega)
       . exact weak_b (fun _ _=>[(0,some 0)]))
    | (refine ⟨c.length - (v + 1),v + 1,by omega,⟨rfl,by omega,fun u hu=>?_⟩,?_⟩
       . by_cases e:u = v
         . subst e;exact ⟨by omega,fun y hy=>hrow y (by omega)⟩
         . exact hall u (by omega)
       . exact weak_b (fun _ _=>[(0,some 0)]))
 . exact VLe.bool (conf_iff.2 ⟨by omega,fun u hu=>hall u (by omega)⟩).symm
structure Vr where
 name:ByteArray
 kind:Int
 lo:Int
 hi:Int
 pn:Int
 pid:Int
instance:Inhabited Vr:=⟨⟨ByteArray.mk #[],0,0,0,0,0⟩⟩
def gV (l:List Vr) (i:Nat):Vr:=l.getD i default
def vV (l:List Vr):Nat→Nat→V:=fun i j=>match j with
 | 0=>.str (gV l i).name
 | 1=>.int .i64 (gV l i).kind
 | 2=>.int .i64 (gV l i).lo
 | 3=>.int .i64 (gV l i).hi
 | 4=>.int .i64 (gV l i).pn
 | _=>.int .i64 (gV l i).pid
def maxL:List Int→Int→Int
 | [],m=>m
 | a :: r,m=>maxL r (if a > m then a else m)
theorem val_facts {g:G} (h:g.valid = true):1≤g.ids.length∧g.ids.length≤24∧g.ports.length = g.ids.length∧(∀ a∈g.ids,0≤a∧a≤255)∧g.ids.Nodup∧(∀ v,v < g.ports.length→okR g.ports.length v (gR g.ports v) = true)∧∀ v,v < g.ports.length→∀ l∈gR g.ports v,((v:Int),l.2)∈gR g.ports l.1.toNat:=by
 simp only [G.valid,Bool.and_eq_true,decide_eq_true_eq,portsOk] at h;obtain ⟨⟨h1,h2,h3⟩,h4,h5,h6⟩:=h;have h4:=(idsOk_iff _).1 h4;exact ⟨h1,h2,h3,h4.1,h4.2,rowsOk_iff.1 h5,symOk_iff.1 h6⟩
theorem lenN_le:∀ {l m:List Nat},l.Nodup→(∀ a∈l,a∈m)→l.length≤m.length
 | [],m,_,_=>Nat.zero_le _
 | a :: l,m,hn,hs=>by
   rw [List.nodup_cons] at hn;have ham:=hs a (by simp);have h1:=lenN_le (l:=l) (m:=m.erase a) hn.2 (fun b hb=>(List.mem_erase_of_ne (fun e=>hn.1 (by rw [← e];exact hb))).2 (hs b (by simp [hb])));have h2:=List.length_erase_of_mem ham;have h3:=List.length_pos_of_mem ham;simp only [List.length_cons];omega
abbrev Pt:=List (List (Int × Int))
def toN (p:Pt) (v i:Nat):Nat:=(gF (gR p v) i).1.toNat
def lay (p:Pt) (f:Nat):Nat→Nat→Int
 | 0,v=>if v = f then 0 else -1
 | k + 1,v=>if 0≤lay p f k v then lay p f k v else if (gR p v).any (fun l=>decide (lay p f k l.1.toNat = k)) then (k:Int) + 1 else -1
structure Found (p:Pt) (f:Nat) (r:Nat→Int):Prop where
 low:∀ v,v < p.length→-1≤r v
 from_:r f = 0
 back:∀ v,v < p.length→v≠f→0≤r v→∃ l∈gR p v,r l.1.toNat = r v - 1∧0≤r l.1.toNat
 on:∀ v,v < p.length→0≤r v→∀ l∈gR p v,0≤r l.1.toNat∧r l.1.toNat≤r v + 1
structure Und (p:Pt):Prop where
 rng:∀ v,v < p.length→∀ l∈gR p v,l.1.toNat < p.length
 sym:∀ v,v < p.length→∀ l∈gR p v,∃ m∈gR p l.1.toNat,m.1.toNat = v
theorem Found.at_ {p:Pt} {f:Nat} {r:Nat→Int} (hu:Und p) (h:Found p f r) (hf:f < p.length):∀ k v,v < p.length→lay p f k v = if 0≤r v∧r v≤k then r v else -1
 | 0,v,hv=>by
   simp only [lay];by_cases e:v = f
   . subst e;rw [if_pos rfl,h.from_];simp
   . rw [if_neg e];by_cases h0:0≤r v
     . obtain ⟨l,_,h1,h2⟩:=h.back v hv e h0;rw [if_neg (by omega)]
     . rw [if_neg (by omega)]
 | k + 1,v,hv=>by
   have ih:=fun v hv=>Found.at_ hu h hf k v hv;have hl:=h.low v hv;rw [lay];by_cases h0:0≤r v∧r v≤k
   . have e1:lay p f k v = r v:=by rw [ih v hv,if_pos h0]
     rw [e1,if_pos h0.1];exact (if_pos ⟨h0.1,by omega⟩).symm
   . have e1:lay p f k v = -1:=by rw [ih v hv,if_neg h0]
     rw [e1,if_neg (by decide)];by_cases h1:0≤r v∧r v = k + 1
     . have hvf:v≠f:=fun e=>by subst e;rw [h.from_] at h1;omega
       obtain ⟨l,hl,q1,q2⟩:=h.back v hv hvf h1.1;have ha:(gR p v).any (fun l=>decide (lay p f k l.1.toNat = k)) = true:=by
        rw [List.any_eq_true];refine ⟨l,hl,decide_eq_true ?_⟩;rw [ih _ (hu.rng v hv l hl),if_pos ⟨q2,by omega⟩];omega
       rw [if_pos ha];refine Eq.trans ?_ (if_pos ⟨h1.1,by omega⟩).symm;omega
     . refine Eq.trans (if_neg ?_) (if_neg (show ¬ (0≤r v∧r v≤((k + 1:Nat):Int)) by omega)).symm;intro ha;rw [List.any_eq_true] at ha;obtain ⟨l,hl,e⟩:=ha;have e:=of_decide_eq_true e;have hlr:=hu.rng v hv l hl;rw [ih _ hlr] at e;split at e
       . rename_i h2;obtain ⟨m,hm,em⟩:=hu.sym v hv l hl;obtain ⟨q1,q2⟩:=h.on _ hlr h2.1 m hm;rw [em] at q1 q2;omega
       . omega
theorem Found.lt {p:Pt} {f:Nat} {r:Nat→Int} (hu:Und p) (h:Found p f r) {v:Nat} (hv:v < p.length):r v < p.length:=by
 have key:∀ m:Nat,∀ v,v < p.length→r v = m→∃ l:List Nat,l.length = m + 1∧l.Nodup∧(∀ u∈l,u < p.length)∧∀ u∈l,r u≤m:=by
  intro m
  induction m with
  | zero=>intro v hv e;exact ⟨[v],rfl,by simp,by simpa using hv,by simp;omega⟩
  | succ m ih =>
    intro v hv e;have hvf:v≠f:=fun x=>by subst x;rw [h.from_] at e;omega
    obtain ⟨l,hl,q1,q2⟩:=h.back v hv hvf (by omega);obtain ⟨L,l1,l2,l3,l4⟩:=ih _ (hu.rng v hv l hl) (by omega);refine ⟨v :: L,by simp [l1],List.nodup_cons.2 ⟨fun hm=>?_,l2⟩,?_,?_⟩
    . have:=l4 v hm;omega
    . intro u hu;rcases List.mem_cons.1 hu with rfl | hu
      . exact hv
      . exact l3 u hu
    . intro u hu;rcases List.mem_cons.1 hu with rfl | hu
      . omega
      . have:=l4 u hu;omega
 rcases Int.lt_or_le (r v) 0 with h0 | h0
 . omega
 . obtain ⟨L,l1,l2,l3,_⟩:=key (r v).toNat v hv (by omega);have:L.length≤(List.range p.length).length:=lenN_le l2 (fun u hu=>List.mem_range.2 (l3 u hu));rw [l1,List.length_range] at this;omega
theorem Found.eq {p:Pt} {f:Nat} {r:Nat→Int} (hu:Und p) (h:Found p f r) (hf:f < p.length) {v:Nat} (hv:v < p.length):lay p f (p.length - 1) v = r v:=by
 have h1:=h.lt hu hv;have h2:=h.low v hv;rw [h.at_ hu hf _ v hv];split
 . rfl
 . omega
def cntU (p:Nat→Bool):Nat→Nat
 | 0=>0
 | n + 1=>cntU p n + if p n then 1 else 0
theorem cntU_ext {p q:Nat→Bool}:∀ {n:Nat},(∀ v,v < n→p v = q v)→cntU p n = cntU q n
 | 0,_=>rfl
 | n + 1,h=>by
   have h1:=cntU_ext (n:=n) fun v hv=>h v (by omega);simp only [cntU,h1,h n (by omega)]
theorem cntU_one {p q:Nat→Bool} {u:Nat} (hp:p u = true) (hq:q u = false) (h:∀ v,v≠u→p v = q v):∀ {n:Nat},u < n→cntU p n = cntU q n + 1
 | n + 1,hn=>by
   simp only [cntU];by_cases e:u = n
   . subst e;rw [cntU_ext (fun v hv=>h v (by omega)),hp,hq];simp
   . rw [cntU_one hp hq h (n:=n) (by omega),h n (fun x=>e x.symm)];omega
def unv (r:List Int) (n:Nat):Nat:=cntU (fun v=>decide (gI r v < 0)) n
theorem gI_set (r:List Int) (u v:Nat) (d:Int) (hu:u < r.length):gI (r.set u d) v = if v = u then d else gI r v:=by
 simp only [gI,List.getD,List.getElem?_set];by_cases h:u = v
 . subst h;simp [hu]
 . have:¬ v = u:=fun e=>h e.symm;simp [h,this]
structure BI (p:Pt) (f:Nat) (q:List Nat) (r:List Int):Prop where
 len:r.length = p.length
 low:∀ v,v < p.length→-1≤gI r v
 from_:gI r f = 0
 back:∀ v,v < p.length→v≠f→0≤gI r v→∃ l∈gR p v,gI r l.1.toNat = gI r v - 1∧0≤gI r l.1.toNat
 qn:∀ u∈q,u < p.length∧0≤gI r u
 sorted:q.Pairwise fun a b=>gI r a≤gI r b
structure BO (p:Pt) (f:Nat) (q:List Nat) (r:List Int):Prop extends BI p f q r where
 top:∀ u∈q,∀ v,v < p.length→gI r v≤gI r u + 1
 done:∀ v,v < p.length→0≤gI r v→v ∉ q→∀ l∈gR p v,0≤gI r l.1.toNat∧gI r l.1.toNat≤gI r v + 1
structure BP (p:Pt) (f v i:Nat) (q:List Nat) (r:List Int):Prop extends BI p f q r where
 vn:v < p.length∧0≤gI r v
 most:∀ x,x < p.length→gI r x≤gI r v + 1
 least:∀ u∈q,gI r v≤gI r u
 done:∀ x,x < p.length→0≤gI r x→x ∉ q→x≠v→∀ l∈gR p x,0≤gI r l.1.toNat∧gI r l.1.toNat≤gI r x + 1
 seen:∀ l∈(gR p v).take i,0≤gI r l.1.toNat
theorem BO.pop {p:Pt} {f v:Nat} {q:List Nat} {r:List Int} (h:BO p f (v :: q) r):BP p f v 0 q r where
 len:=h.len
 low:=h.low
 from_:=h.from_
 back:=h.back
 qn:=fun u hu=>h.qn u (by simp [hu])
 sorted:=(List.pairwise_cons.1 h.sorted).2
 vn:=h.qn v (by simp)
 most:=h.top v (by simp)
 least:=(List.pairwise_cons.1 h.sorted).1
 done:=fun x hx h0 hq hv=>h.done x hx h0 (by simp only [List.mem_cons,not_or];exact ⟨hv,hq⟩)
 seen:=by simp
theorem BP.fin {p:Pt} {f v i:Nat} {q:List Nat} {r:List Int} (hu:Und p) (h:BP p f v i q r) (hi:(gR p v).length≤i):BO p f q r where
 toBI:=h.toBI
 top:=fun u hu x hx=>by have:=h.least u hu;have:=h.most x hx;omega
 done:=fun x hx h0 hq=>by
  by_cases e:x = v
  . subst e;intro l hl;refine ⟨h.seen l (by rw [List.take_of_length_le hi];exact hl),h.most _ (hu.rng x hx l hl)⟩
  . exact h.done x hx h0 hq e
theorem BP.skip {p:Pt} {f v i:Nat} {q:List Nat} {r:List Int} (h:BP p f v i q r) (hi:i < (gR p v).length) (h0:0≤gI r (toN p v i)):BP p f v (i + 1) q r where
 toBI:=h.toBI
 vn:=h.vn
 most:=h.most
 least:=h.least
 done:=h.done
 seen:=fun l hl=>by
  rw [gF_take _ i hi] at hl;rcases List.mem_append.1 hl with h1 | h1
  . exact h.seen l h1
  . simp at h1;rw [h1];exact h0
theorem BP.visit {p:Pt} {f v i:Nat} {q:List Nat} {r:List Int} (hu:Und p) (h:BP p f v i q r) (hi:i < (gR p v).length) (h0:gI r (toN p v i) < 0) :
 BP p f v (i + 1) (q ++ [toN p v i]) (r.set (toN p v i) (gI r v + 1))∧unv r p.length = unv (r.set (toN p v i) (gI r v + 1)) p.length + 1:=by
 obtain ⟨hv,hv0⟩:=h.vn;have hun:toN p v i < p.length:=hu.rng v hv _ (gF_mem hi);obtain ⟨m,hm,hmv⟩:=hu.sym v hv _ (gF_mem hi);have hg:=fun x=>gI_set r (toN p v i) x (gI r v + 1) (by rw [h.len];exact hun);change m∈gR p (toN p v i) at hm;have hlast:(gF (gR p v) i).1.toNat = toN p v i:=rfl;generalize toN p v i = u at *;have hvu:v≠u:=fun e=>by subst e;omega
 have keep:∀ x,0≤gI r x→gI (r.set u (gI r v + 1)) x = gI r x:=fun x hx=>by
  rw [hg,if_neg (fun e=>by subst e;omega)]
 have hle:∀ x,x < p.length→gI (r.set u (gI r v + 1)) x≤gI r v + 1:=fun x hx=>by
  rw [hg];split
  . omega
  . exact h.most x hx
 refine ⟨{ len:=by simp [h.len],low:=?_,from_:=?_,back:=?_,qn:=?_,sorted:=?_,vn:=?_,most:=?_,least:=?_,done:=?_,seen:=?_ },?_⟩
 . intro x hx;rw [hg];split
   . omega
   . exact h.low x hx
 . rw [keep f (by rw [h.from_];omega)];exact h.from_
 . intro x hx hxf hx0;by_cases e:x = u
   . subst e;refine ⟨m,hm,?_⟩;rw [hmv,keep v hv0,hg,if_pos rfl];omega
   . rw [hg,if_neg e] at hx0 ⊢;obtain ⟨l,hl,a,b⟩:=h.back x hx hxf hx0;exact ⟨l,hl,by rw [keep _ b];exact a,by rw [keep _ b];exact b⟩
 . intro w hw;rcases List.mem_append.1 hw with h1 | h1
   . obtain ⟨a,b⟩:=h.qn w h1;exact ⟨a,by rw [keep w b];exact b⟩
   . simp at h1;subst h1;exact ⟨hun,by rw [hg,if_pos rfl];omega⟩
 . rw [List.pairwise_append];refine ⟨h.sorted.imp_of_mem fun {a b} ha hb hab=>?_,by simp,fun a ha b hb=>?_⟩
   . rw [keep a (h.qn a ha).2,keep b (h.qn b hb).2];exact hab
   . simp at hb;subst hb;rw [keep a (h.qn a ha).2,hg,if_pos rfl];exact h.most a (h.qn a ha).1
 . exact ⟨hv,by rw [keep v hv0];exact hv0⟩
 . intro x hx;rw [keep v hv0];exact hle x hx
 . intro w hw;rw [keep v hv0];rcases List.mem_append.1 hw with h1 | h1
   . rw [keep w (h.qn w h1).2];exact h.least w h1
   . simp at h1;subst h1;rw [hg,if_pos rfl];omega
 . intro x hx hx0 hq hxv l hl;have hxu:x≠u:=fun e=>hq (by simp [e]);rw [hg,if_neg hxu] at hx0;rw [keep x hx0];obtain ⟨a,b⟩:=h.done x hx hx0 (fun e=>hq (by simp [e])) hxv l hl;rw [keep _ a];exact ⟨a,b⟩
 . intro l hl;rw [gF_take _ i hi] at hl;rcases List.mem_append.1 hl with h1 | h1
   . rw [keep _ (h.seen l h1)];exact h.seen l h1
   . simp at h1;rw [h1,hlast,hg,if_pos rfl];omega
 . refine cntU_one (u:=u) (by simpa using h0) (by rw [hg,if_pos rfl];simp;omega) (fun x hx=>?_) hun;show decide _ = decide _;rw [hg,if_neg hx]
theorem BO.found {p:Pt} {f:Nat} {r:List Int} (h:BO p f [] r):Found p f (gI r) where
 low:=h.low
 from_:=h.from_
 back:=h.back
 on:=fun v hv h0 l hl=>h.done v hv h0 (by simp) l hl
end Go.Proofs.YtgajaabakpfbbaaGreat
