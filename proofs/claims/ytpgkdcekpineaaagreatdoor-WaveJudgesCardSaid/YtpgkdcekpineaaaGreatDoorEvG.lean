import Derived.Test.YtpgkdcekpineaaaGreatDoorEvE
import Derived.Test.YtpgkdcekpineaaaGreatDoorGRCode
import Derived.WalkKit
import Derived.Defers
import Derived.Recover
import Derived.Laws.Pointers
import Derived.Lib.Walk
import Derived.Lib.Strings
import Derived.Lib.Bytealg
import Derived.BigCall
import Derived.Laws.Strings3
import Derived.Test.YtpgkdcekpineaaaGreatDoorSV1
namespace Go.Eng
noncomputable def cfin (r:R):Option C:=match r.v with
 | .tup cs=>match cbors r.o cs with
   | some l=>some (.tup l)
   | none=>none
 | v=>cbor r.o v
theorem cfin_ok {r:R} {c:C} {K:V→Prop} (h:cfin r = some c) (hK:K c.v):frzT (ownV r.o) r.v.v K:=by
 obtain ⟨v,o,k⟩:=r;unfold cfin at h;simp only at h ⊢;split at h
 . split at h
   . rename_i l hl;cases h;simp only [C.v,frzT];exact cbors_ok hl (by simpa [C.v] using hK)
   . cases h
 . rename_i hne;have hb:=cbor_ok h hK;cases v <;> first
    | exact (hne _ rfl).elim
    | (simp only [C.v] at hb ⊢;simp only [frzT];exact hb)
noncomputable def evX (tb:List (Nat × FDef)) (lf fuel:Nat) (f:FuncId) (args:List C):Option C:=match allC kfC args with
 | true=>match evF tb lf fuel f args [] 0 with
   | some r=>cfin r
   | none=>none
 | false=>none
theorem ev_ret {P:Program} (hm:P.follows .mixedOrders = true) {tb:List (Nat × FDef)} (ht:TbOk P tb) {lf fuel:Nat} {f:FuncId} {args:List C} {c:C} (h:evX tb lf fuel f args = some c):Ret P f (C.vs args) c.v:=by
 unfold evX at h;split at h
 case h_2=>cases h
 rename_i hk;have hk:allB V.kf (C.vs args) = true:=by rw [allB_vs kfC_eq];exact hk
 split at h
 case h_2=>cases h
 rename_i r hr;have hc:=((evF_ok hm ht (lf:=lf) fuel).out _ _ _ _ _ hr).2 (fun v own' _=>frzT own' v fun v'=>v' = c.v) (cfin_ok h rfl);intro own ks;constructor;intro M w σ us hlen hd hh;refine (hc.out M w Sg.none us hlen (fun i v u hv hu=>(hd i v u hv hu).kf (allB_mem hk v (List.mem_of_getElem? hv)) Sg.none) (hsim_nothing (ksV 0) List.nodup_range')).mono ?_;rintro e w' ⟨M',σ',v,own',ks',u,rfl,hv,hh',tr,_,hfr⟩;obtain ⟨v',hK,hv'⟩:=frzT_sound hfr;subst hK;have hM:∀ b,b < w.heap.size→(lent M' w' σ' own' b↔M b):=by
  intro b hb;have hno:¬ owned w' σ' own' b:=fun ho=>by
   rcases tr.new b ho with h1 | h1
   . exact owned_nil h1
   . omega
  constructor
  . intro h1;exact (tr.adv.muts b hb owned_nil).1 h1.1
  . intro h1;exact ⟨(tr.adv.muts b hb owned_nil).2 h1,hno⟩
 have hfr:=hsim_frame (M'':=lent M' w' σ' own') hh tr hM;exact ⟨_,σ,c.v,own,ks,u,rfl,(hv' M' w' σ' u hh'.own hv).mono (Ext.mk (fun _ _ h=>⟨h,rfl⟩) (Nat.le_refl _)) (Sg.none_le σ),hfr.1,hfr.2,Kd.refl _ _ _,rfl,rfl,rfl⟩
theorem fd_code {P:Program} {f:FuncId} {fn:Func} {c:Code} {sc:SC} {n:Nat} {rs:List RV} (hf:P.funcs[f]? = some fn) (hb:fn.body = some c) (hn:fn.ntmps = n) (hnm:(fn.name == "runtime.NumGoroutine") = false)
 (hc:cCode P fn.ntmps c = some sc) (hr:cRes P fn.results.toList = some rs):FdOk P f (.code sc n rs):=by
 subst hn;exact ⟨by simp [callable,hf,hb,hnm],fn,c,hf,hb,rfl,hc,hr⟩
noncomputable def memoG (l:List (List C × C)) (args:List C):Option C:=@List.rec (List C × C) (fun _=>Option C) none (fun p _ ih=>match beqCs args p.1 with | true=>some p.2 | false=>ih) l
theorem fd_memo {P:Program} {f:FuncId} (hf:callable P f = true) (l:List (List C × C)) (h:∀ p,p∈l→Ret P f (C.vs p.1) p.2.v):FdOk P f (.ext (memoG l)):=by
 refine ⟨hf,fun args v hv=>?_⟩
 induction l with
 | nil=>cases hv
 | cons p r ih =>
   have hv:(match beqCs args p.1 with | true=>some p.2 | false=>memoG r args) = some v:=hv;split at hv
   . rename_i hb;cases hv;rw [beqCs_ok _ _ hb];exact h p (by simp)
   . exact ih (fun q hq=>h q (by simp [hq])) hv
theorem memo_one {P:Program} {f:FuncId} {a:List C} {c:C} (h:Ret P f (C.vs a) c.v):∀ p,p∈[(a,c)]→Ret P f (C.vs p.1) p.2.v:=by
 intro p hp;simp only [List.mem_singleton] at hp;subst hp;exact h
def beqT:C→C→Bool
 | .tup l,.tup l'=>beqCs l l'
 | a,b=>beqC a b
theorem beqT_ok {a b:C} (h:beqT a b = true):a = b:=by
 unfold beqT at h;split at h
 . rw [beqCs_ok _ _ h]
 . exact beqC_ok _ _ h
noncomputable def memoB (tb:List (Nat × FDef)) (lf fuel:Nat) (f:FuncId) (l:List (List C × C)):Bool:=@List.rec (List C × C) (fun _=>Bool) true (fun p _ ih=>match evX tb lf fuel f p.1 with
 | some c=>match beqT c p.2 with | true=>ih | false=>false
 | none=>false) l
theorem memo_run {P:Program} (hm:P.follows .mixedOrders = true) {tb:List (Nat × FDef)} (ht:TbOk P tb) {lf fuel:Nat} {f:FuncId} {l:List (List C × C)} (h:memoB tb lf fuel f l = true):∀ p,p∈l→Ret P f (C.vs p.1) p.2.v:=by
 induction l with
 | nil=>intro p hp;cases hp
 | cons q r ih =>
   have h:(match evX tb lf fuel f q.1 with | some c=>(match beqT c q.2 with | true=>memoB tb lf fuel f r | false=>false) | none=>false) = true:=h;split at h
   . rename_i c hc;split at h
     . rename_i hb;intro p hp;rcases List.mem_cons.1 hp with rfl | hp
       . rw [← beqT_ok hb];exact ev_ret hm ht hc
       . exact ih h p hp
     . cases h
   . cases h
theorem memo_app {P:Program} {f:FuncId} {a b:List (List C × C)} (ha:∀ p,p∈a→Ret P f (C.vs p.1) p.2.v) (hb:∀ p,p∈b→Ret P f (C.vs p.1) p.2.v):∀ p,p∈a ++ b→Ret P f (C.vs p.1) p.2.v:=fun p hp=>by
 rcases List.mem_append.1 hp with h | h
 . exact ha p h
 . exact hb p h
theorem fd_pure {P:Program} (hm:P.follows .mixedOrders = true) {tb:List (Nat × FDef)} (ht:TbOk P tb) {lf fuel:Nat} {f:FuncId} (hf:callable P f = true):FdOk P f (.ext (evX tb lf fuel f)) :=
 ⟨hf,fun _ _ h=>ev_ret hm ht h⟩
theorem hsim_ext {M M':Nat→Prop} {w w':World} {σ:Sg} {own:Own} {ks:List Nat} (hh:HSim M w σ own ks) (hE:Ext M w M' w') (hM:∀ b,owned w σ own b→M' b∧w'.heap[b]? = w.heap[b]?) :
 HSim M' w' σ own ks∧∀ n,owned w' σ own n↔owned w σ own n:=by
 have keep:∀ k b n,(k,b)∈own→(holds w' σ k b n↔holds w σ k b n):=fun k b n hm=>holds_same (Sg.le_refl _) (hh.own.key hm) fun ob hob=>(hM ob ⟨k,b,hm,.inl hob⟩).2;exact ⟨⟨⟨fun k b hm=>(hh.own.blk k b hm).mono hE (Sg.le_refl _) fun n hn=>hM n ⟨k,b,hm,hn⟩,hh.own.nodup,fun k b k' b' n m1 m2 hne e1 e2=>hh.own.apart k b k' b' n m1 m2 hne ((keep k b n m1).1 e1) ((keep k' b' n m2).1 e2)⟩,hh.fresh,hh.knodup⟩,
  fun n=>owned_le hh.own (Sg.le_refl _) fun b hb=>(hM b hb).2⟩
noncomputable def someB {α:Type} (o:Option α):Bool:=@Option.rec α (fun _=>Bool) false (fun _=>true) o
theorem some_getD {α:Type} {o:Option α} {d:α} (h:someB o = true):o = some (o.getD d):=by
 cases o with
 | none=>cases h
 | some x=>rfl
theorem fd_codeC {P:Program} {f:FuncId} {fn:Func} {c:Code} {n:Nat} (hf:P.funcs[f]? = some fn) (hb:fn.body = some c) (hn:fn.ntmps = n) (hnm:(fn.name == "runtime.NumGoroutine") = false)
 (h:(someB (cCode P fn.ntmps (fn.body.getD .skip)) && someB (cRes P fn.results.toList)) = true):FdOk P f (.code ((cCode P fn.ntmps (fn.body.getD .skip)).getD .skip) n ((cRes P fn.results.toList).getD [])):=by
 rw [Bool.and_eq_true] at h;refine fd_code hf hb hn hnm ?_ (some_getD h.2);have:=some_getD (d:=.skip) h.1;rw [hb] at this ⊢;exact this
end Go.Eng
namespace Go.Proofs.YtpgkdcekpineaaaGreatDoor
open Go.Eng
set_option maxRecDepth 100000
set_option maxHeartbeats 1000000 in
theorem idx_calls (s:ByteArray) (c:Int) (w:World) :
 Calls Tryz.prog 164 #[.string s,.int .u8 c] w fun e w'=>e = .returned (.int .i64 (Lib.indexByte s.data.toList c.toNat.toUInt8))∧w' = w:=by
 go_enter Tryz.func164,(rfl:Tryz.f164.ntmps = _)
 go_wp2
 rw [run_callFunc_extern Tryz.func186 (by kernel_rfl) (by kernel_rfl) (by kernel_rfl) (e:=Extern.BytealgIndexByte.indexByte) (by kernel_rfl),Lib.run_indexByteString];simp only [Result.andThen];rw [Oper.upon_value]
 go_wp2
 go_ret
 exact ⟨rfl,rfl⟩
noncomputable def ixA (b:Nat) (l:Nat):Nat→Nat→Int:=@Nat.rec (fun _=>Nat→Nat→Int) (fun _ _=>.negSucc 0) (fun _ ih c i=>match Nat.beq (Nat.mod c 256) b with | true=>.ofNat i | false=>ih (Nat.div c 256) (Nat.succ i)) l
theorem ixA_eq {b:Nat} (hb:b < 256):∀ (l c i:Nat),ixA b l c i = if Lib.indexByte (bl l c) b.toUInt8 = -1 then -1 else Lib.indexByte (bl l c) b.toUInt8 + i
 | 0,c,i=>rfl
 | l + 1,c,i=>by
   have e:ixA b (l + 1) c i = match Nat.beq (Nat.mod c 256) b with | true=>.ofNat i | false=>ixA b l (Nat.div c 256) (Nat.succ i):=rfl
   rw [e];have hm:c % 256 < 256:=Nat.mod_lt _ (by omega);have hge:∀ (q:List UInt8) (x:UInt8),-1≤Lib.indexByte q x:=by
    intro q x
    induction q with
    | nil=>simp [Lib.indexByte]
    | cons y q ih=>simp only [Lib.indexByte];split <;> (try split) <;> omega
   cases hx:Nat.beq (Nat.mod c 256) b with
   | true =>
     have h1:c % 256 = b:=Nat.eq_of_beq_eq_true hx;have h2:(UInt8.ofNat (c % 256) == b.toUInt8) = true:=by rw [h1];simp
     simp only [bl,Lib.indexByte,h2,if_true];simp
   | false =>
     have h1:c % 256≠b:=fun e=>by
      have:Nat.beq (Nat.mod c 256) b = true:=Nat.beq_eq ▸ e;rw [hx] at this;cases this
     have h2:(UInt8.ofNat (c % 256) == b.toUInt8) = false:=by
      rw [beq_eq_false_iff_ne];intro e;have:=congrArg UInt8.toNat e;simp at this;omega
     have ih:=ixA_eq hb l (c / 256) (i + 1);show ixA b l (c / 256) (i + 1) = _;rw [ih];simp only [bl,Lib.indexByte,h2,Bool.false_eq_true,if_false];have:=hge (bl l (c / 256)) b.toUInt8;by_cases h3:Lib.indexByte (bl l (c / 256)) b.toUInt8 = -1
     . simp [h3]
     . have h4:(Lib.indexByte (bl l (c / 256)) b.toUInt8 == -1) = false:=by simpa using h3
       simp only [h4,h3,if_false,Bool.false_eq_true];rw [if_neg (by omega)];omega
noncomputable def idxg (args:List C):Option C:=match args with
 | [.str l c,.int .u8 (.ofNat b)]=>match Nat.blt b 256 with
   | true=>fI (ixA b l c 0) fun n=>some (.int .i64 n)
   | false=>none
 | _=>none
theorem idx_ok:FdOk Tryz.prog 164 (.ext idxg):=by
 refine ⟨by kernel_rfl,fun args v h own ks=>⟨fun M w σ us hlen hd hh=>?_⟩⟩;unfold idxg at h;split at h
 . rename_i l c b;split at h
   . rename_i hb;rw [fI_eq] at h;cases h
     match us,hlen,hd with
     | [u1,u2],_,hd =>
       have h1:=hd 0 _ u1 rfl rfl;have h2:=hd 1 _ u2 rfl rfl;simp only [C.v] at h1 h2;cases h1;cases h2;refine (idx_calls _ _ w).mono ?_;rintro e w' ⟨rfl,rfl⟩;have hb:=Nat.le_of_ble_eq_true hb;have e1:Lib.indexByte (bytesOf l c).data.toList (Int.ofNat b).toNat.toUInt8 = ixA b l c 0:=by
        rw [ixA_eq hb];show Lib.indexByte (bl l c) b.toUInt8 = _;split <;> simp_all
       rw [e1];exact ⟨M,σ,_,own,ks,_,rfl,.int _ _ _,hh,Tr.refl _ _ _ _,Kd.refl _ _ _,by simp [C.v],rfl,rfl⟩
   . cases h
 . cases h
set_option maxHeartbeats 1000000 in
theorem recovered_nil (w:World):Calls Tryz.prog 57 #[.nilIface] w fun e w'=>e = .returned (.tuple #[.agg #[.int .i64 0,.int .i64 0],.bool false])∧w' = w.alloc (.cells #[.int .i64 0,.int .i64 0] 104):=by
 have hres:Tryz.f57.results = #[.cell 2 104,.tmp 3]:=by kernel_rfl
 go_enter Tryz.func57,(rfl:Tryz.f57.ntmps = _)
 go_wp2
 simp [bodyPost,results,go_sem]
set_option maxHeartbeats 1000000 in
theorem catch_idle (p q:Addr) (w:World) :
 CallsD Tryz.prog 56 #[.pointer (some p),.pointer (some q)] .returning w fun e u' w'=>e = .returned (.tuple #[])∧u' = .returning∧w' = (w.alloc (.cells #[.int .i64 0,.int .i64 0] 104)).alloc (.cells #[.int .i64 0,.int .i64 0] 104):=by
 have hres:Tryz.f56.results = #[]:=by kernel_rfl
 refine callsD_of_wpS Tryz.func56 rfl fun c₀ cs hu=>?_;apply wpS_seq;apply wpS_region;simp [wpOpsS,go_sem,recoverD,hu,Exit.thenS];refine (recovered_nil w).mono ?_;rintro e w' ⟨rfl,rfl⟩;simp [go_sem];apply wpS_seq;apply wpS_region;simp [wpOpsS,go_sem,Exit.thenS];refine wpS_cond (t:=false) (by simp [Act.eval,Array.replicate]) ?_;simp only [Bool.false_eq_true,if_false];refine wpS_of_wp (wp_skip ?_);cases c₀
 simp_all [bodyPostS,results]
theorem catch_post {M:Nat→Prop} {w w2 w3 w5:World} {σ:Sg} {own:Own} {ks:List Nat} (hh:HSim M w σ own ks) (hs2:w2.heap.size = w.heap.size + 2) (h2:∀ b,b < w.heap.size→w2.heap[b]? = w.heap[b]?)
 (o2:w2.os = w.os∧w2.tape = w.tape∧w2.output = w.output)
 {M3:Nat→Prop} {σ3:Sg} {own3:Own} {ks3:List Nat} (hh3:HSim M3 w3 σ3 own3 ks3) (tr:Tr (fun b=>M b∨w.heap.size≤b) w2 σ own M3 w3 σ3 own3)
 (hs5:w3.heap.size≤w5.heap.size) (h5:∀ b,b < w3.heap.size→b≠w.heap.size→b≠w.heap.size + 1→w5.heap[b]? = w3.heap[b]?) (o5:w5.os = w3.os∧w5.tape = w3.tape∧w5.output = w3.output) :
 HSim M3 w5 σ3 own3 ks3∧Tr M w σ own M3 w5 σ3 own3:=by
 have hown2:∀ n,owned w2 σ own n↔owned w σ own n:=fun n=>owned_le hh.own (Sg.le_refl _) fun b hb=>h2 b (owned_M hh.own hb).2;have hs3:=tr.adv.size;have hno:∀ b,b = w.heap.size∨b = w.heap.size + 1→¬ owned w3 σ3 own3 b:=by
  intro b hb ho;rcases tr.new b ho with h | h
  . have:=(owned_M hh.own ((hown2 b).1 h)).2;omega
  . omega
 have hM3:∀ b,b = w.heap.size∨b = w.heap.size + 1→M3 b:=by
  intro b hb;refine (tr.adv.muts b (by omega) fun h=>?_).2 (.inr (by omega));have:=(owned_M hh.own ((hown2 b).1 h)).2;omega
 have hE:Ext M3 w3 M3 w5:=⟨fun b hb hn=>⟨hn,h5 b hb (fun e=>hn (hM3 b (.inl e))) (fun e=>hn (hM3 b (.inr e)))⟩,hs5⟩;obtain ⟨a1,a2⟩:=hsim_ext hh3 hE (fun b hb=>⟨(owned_M hh3.own hb).1,h5 b (owned_M hh3.own hb).2 (fun e=>hno b (.inl e) hb) (fun e=>hno b (.inr e) hb)⟩);refine ⟨a1,⟨⟨o5.1.trans (tr.adv.os.trans o2.1),o5.2.1.trans (tr.adv.tape.trans o2.2.1),o5.2.2.trans (tr.adv.output.trans o2.2.2),by omega,fun b hb hn=>?_,fun b hb hn=>?_⟩,fun b hb=>?_,tr.le⟩⟩
 . rw [h5 b (by omega) (by omega) (by omega),tr.adv.same b (by omega) (fun h=>hn ((hown2 b).1 h)),h2 b hb]
 . refine (tr.adv.muts b (by omega) (fun h=>hn ((hown2 b).1 h))).trans ⟨fun h=>?_,.inl⟩;rcases h with h | h
   . exact h
   . omega
 . rcases tr.new b ((a2 b).1 hb) with h | h
   . exact .inl ((hown2 b).1 h)
   . right;omega
set_option maxHeartbeats 1000000 in
theorem catch_ok:FdOk Tryz.prog 29 .catch_:=by
 have hmf:∀ (fn:Fn) (first cap:Array Value) (w:World),(Instr.makeFunc fn first cap).run Tryz.prog w = .ok (.func fn first cap) w:=fun _ _ _ _=>rfl;have hres:Tryz.f29.results = #[.cell 2 3,.cell 3 26]:=by kernel_rfl
 refine ⟨by kernel_rfl,fun g bd cap own ks K hg h=>⟨fun M w σ us hlen hd hh=>?_⟩⟩
 match us,hlen,hd with
 | [u],_,hd =>
   have hu:=hd 0 _ u rfl rfl;clear hd;cases hu with
   | fn _ _ _ _ lb hcl hcd =>
     go_enter_defers Tryz.func29,(rfl:Tryz.f29.ntmps = _)
     go_wp2
     rw [run_callFunc hg,Oper.upon_enter];have hargs:fnB bd lb ++ fnC bd lb = lb.toArray:=by cases bd <;> simp [fnB,fnC]
     rw [hargs];obtain ⟨w2,hw2⟩:∃ w2,w2 = ((w.alloc (Obj.cells #[Value.int IntKind.i64 0] 3)).alloc (Obj.cells #[Value.int IntKind.i64 0] 26)):=⟨_,rfl⟩;have hs2:w2.heap.size = w.heap.size + 2:=by subst hw2;simp
     have h2:∀ b,b < w.heap.size→w2.heap[b]? = w.heap[b]?:=by
      intro b hb;subst hw2;rw [alloc_get (by simp;omega),alloc_get hb]
     have hb0:w2.heap[w.heap.size]? = some (.cells #[.int .i64 0] 3 (0,0)):=by
      subst hw2;rw [alloc_get (by simp)];exact alloc_new
     have hb1:w2.heap[w.heap.size + 1]? = some (.cells #[.int .i64 0] 26 (0,0)):=by
      subst hw2;have:=alloc_new (w:=w.alloc (Obj.cells #[Value.int IntKind.i64 0] 3)) (o:=Obj.cells #[Value.int IntKind.i64 0] 26);simpa using this
     have o2:w2.os = w.os∧w2.tape = w.tape∧w2.output = w.output:=by subst hw2;exact ⟨rfl,rfl,rfl⟩
     have hE2:Ext M w (fun b=>M b∨w.heap.size≤b) w2:=⟨fun b hb hn=>⟨fun h=>h.elim hn (by omega),h2 b hb⟩,by omega⟩;obtain ⟨hh2,_⟩:=hsim_ext hh hE2 (fun b hb=>⟨.inl (owned_M hh.own hb).1,h2 b (owned_M hh.own hb).2⟩);rw [← hw2];refine (h.out _ w2 σ lb hcl (fun i v u hv hu=>(hcd i v u hv hu).mono hE2 (Sg.le_refl _)) hh2).mono ?_;rintro e w3 ⟨M3,σ3,v3,own3,ks3,u3,rfl,hv3,hh3,tr3,kd3,hK3⟩;have hno2:∀ b,w.heap.size≤b→¬ owned w2 σ own b:=fun b hb ho=>by
      have:=(owned_M hh.own ((owned_le hh.own (Sg.le_refl _) fun b hb=>h2 b (owned_M hh.own hb).2).1 ho)).2;omega
     have c0:w3.heap[w.heap.size]? = some (.cells #[.int .i64 0] 3 (0,0)):=by rw [tr3.adv.same _ (by omega) (hno2 _ (by omega)),hb0]
     have c1:w3.heap[w.heap.size + 1]? = some (.cells #[.int .i64 0] 26 (0,0)):=by rw [tr3.adv.same _ (by omega) (hno2 _ (by omega)),hb1]
     have k0:w3.cell? ⟨w.heap.size,0,none⟩ = some (.int .i64 0):=by simp [World.cell?,c0]
     have z0:w3.frozen? ⟨w.heap.size,0,none⟩ = false:=by simp [World.frozen?,c0]
     have d1:(w3.setCell ⟨w.heap.size,0,none⟩ (.int .i64 0)).heap[w.heap.size + 1]? = some (.cells #[.int .i64 0] 26 (0,0)):=by rw [heap_setCell_other _ _ _ _ (by simp)];exact c1
     have k1:(w3.setCell ⟨w.heap.size,0,none⟩ (.int .i64 0)).cell? ⟨w.heap.size + 1,0,none⟩ = some (.int .i64 0):=by simp [World.cell?,d1]
     have z1:(w3.setCell ⟨w.heap.size,0,none⟩ (.int .i64 0)).frozen? ⟨w.heap.size + 1,0,none⟩ = false:=by simp [World.frozen?,d1]
     simp only
     go_wp2
     generalize hw4:((w3.setCell ⟨w.heap.size,0,none⟩ (.int .i64 0)).setCell ⟨w.heap.size + 1,0,none⟩ (.int .i64 0)) = w4;have hs4:w4.heap.size = w3.heap.size:=by subst hw4;simp
     have h4:∀ b,b≠w.heap.size→b≠w.heap.size + 1→w4.heap[b]? = w3.heap[b]?:=fun b e0 e1=>by
      subst hw4;rw [heap_setCell_other _ _ _ _ (by simpa using e1),heap_setCell_other _ _ _ _ (by simpa using e0)]
     have o4:w4.os = w3.os∧w4.tape = w3.tape∧w4.output = w3.output:=by subst hw4;exact ⟨rfl,rfl,rfl⟩
     have q0:w4.heap[w.heap.size]? = some (.cells #[.int .i64 0] 3 (0,0)):=by
      subst hw4;rw [heap_setCell_other _ _ _ _ (by simp)];exact one_setCell c0
     have q1:w4.heap[w.heap.size + 1]? = some (.cells #[.int .i64 0] 26 (0,0)):=by
      subst hw4;exact one_setCell d1
     refine leaves_cons (f:=56) (args:=#[.pointer (some ⟨w.heap.size,0,none⟩),.pointer (some ⟨w.heap.size + 1,0,none⟩)]) (by simp) (by simp [go_sem]) ?_;refine (catch_idle _ _ _).mono ?_;rintro e u' w5 ⟨rfl,rfl,rfl⟩;generalize hw5:((w4.alloc (.cells #[.int .i64 0,.int .i64 0] 104)).alloc (.cells #[.int .i64 0,.int .i64 0] 104)) = w5;have hlt0:=lt_of_getElem? q0;have hlt1:=lt_of_getElem? q1;have hs5:w3.heap.size≤w5.heap.size:=by subst hw5;simp;omega
     have h5:∀ b,b < w3.heap.size→w5.heap[b]? = w4.heap[b]?:=fun b hb=>by
      subst hw5;rw [alloc_get (by simp;omega),alloc_get (by omega)]
     have o5:w5.os = w3.os∧w5.tape = w3.tape∧w5.output = w3.output:=by subst hw5;exact o4
     obtain ⟨f1,f2⟩:=catch_post hh hs2 h2 o2 hh3 tr3 hs5 (fun b hb e0 e1=>(h5 b hb).trans (h4 b e0 e1)) o5;have r0:w5.cell? ⟨w.heap.size,0,none⟩ = some (.int .i64 0):=by simp [World.cell?,h5 _ (by omega:w.heap.size < w3.heap.size),q0]
     have r1:w5.cell? ⟨w.heap.size + 1,0,none⟩ = some (.int .i64 0):=by simp [World.cell?,h5 _ (by omega:w.heap.size + 1 < w3.heap.size),q1]
     simp [Leaves,settle,results,go_sem,r0,r1];exact ⟨M3,σ3,_,den_tup2 (.int _ _ _) (.int _ _ _),own3,ks3,f1,f2,kd3,hK3⟩
end Go.Proofs.YtpgkdcekpineaaaGreatDoor
namespace Go.Proofs.YtpgkdcekpineaaaGreatDoor
open Go.Eng
set_option maxRecDepth 100000
end Go.Proofs.YtpgkdcekpineaaaGreatDoor
