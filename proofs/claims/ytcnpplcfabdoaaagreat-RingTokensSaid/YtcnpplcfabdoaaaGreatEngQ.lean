/-
  The engine, part Q: the verification condition once more, by plain recursors and with each continuation named once, so that the kernel unfolds it just as the elaborator does.
-/
import Derived.Test.YtcnpplcfabdoaaaGreatEngP
namespace Go.Eng

abbrev OC := Env → Own → List Nat → (Env → Own → List Nat → Prop) → Prop
abbrev CC := Env → Own → List Nat → (Out → Prop) → Prop

def gop (P : Program) (g : Option (Nat × Bool)) (op : SOp) (env : Env) (own : Own) (ks : List Nat) (K : V → Own → List Nat → Prop) : Prop :=
  match g with
  | none => vop P op env own ks K
  | some (t, want) => match look env t with
    | some (.bool b) => match Bool.xor b want with
      | false => vop P op env own ks K
      | true => K (.raw (.tuple #[])) own ks
    | some (.raw (.tuple _)) => K (.raw (.tuple #[])) own ks
    | _ => False

def gopO (P : Program) (g : Option (Nat × Bool)) (op : SOp) (env : Env) (own : Own) (ks : List Nat) (K : V → Own → List Nat → Prop) : Prop :=
  match g with
  | none => vopO P op env own ks K
  | some (t, want) => match look env t with
    | some (.bool b) => match Bool.xor b want with
      | false => vopO P op env own ks K
      | true => K (.raw (.tuple #[])) own ks
    | some (.raw (.tuple _)) => K (.raw (.tuple #[])) own ks
    | _ => False

def putK (env : Env) (d : Option Nat) (v : V) (K : Env → Prop) : Prop :=
  match d with
  | some t => K ((t, v) :: env)
  | none => K env

def oNil : OC := fun env own ks K => K env own ks
def oCons (P : Program) (s : SI) (_ : List SI) (ih : OC) : OC := fun env own ks K =>
  gopO P s.guard s.op env own ks fun v own ks => putK env s.dst v fun env => ih env own ks K
def vopsR (P : Program) (l : List SI) : OC := @List.rec SI (fun _ => OC) oNil (oCons P) l

def effop (P : Program) (g : Option (Nat × Bool)) (pend : List Nat) (held : List (Option Nat × Nat × Nat)) (op : SOp) (env : Env) (own : Own) (ks : List Nat) (K : V → Own → List Nat → Prop) : Prop :=
  guardK env g
    (splitK env pend own [] fun ownA ownB => vop P op env ownA ks fun v ownA' ks => heldK env ownA' (appK ownB ownA' fun own => K v own ks) held)
    (K (.raw (.tuple #[])) own ks)

def dCons (P : Program) (d : DI) (_ : List DI) (ih : OC) : OC := fun env own ks K =>
  match d with
  | .op _ s => gop P s.guard s.op env own ks fun v own ks => putK env s.dst v fun env => ih env own ks K
  | .eff _ pend held s => effop P s.guard pend held s.op env own ks fun v own ks => putK env s.dst v fun env => ih env own ks K
def vdrawR (P : Program) (l : List DI) : OC := @List.rec DI (fun _ => OC) oNil (dCons P) l

def normK (K : Out → Prop) (env : Env) (own : Own) (ks : List Nat) : Prop := K (.normal ⟨env, own, ks⟩)
def seqK (b : CC) (K : Out → Prop) (o : Out) : Prop :=
  match o with
  | .normal ⟨env, own, ks⟩ => b env own ks K
  | .exit id st => K (.exit id st)
  | .ret st => K (.ret st)
def blockK (id : Nat) (K : Out → Prop) (o : Out) : Prop :=
  match o with
  | .normal st => K (.normal st)
  | .exit id' st => K (match Nat.beq id' id with | true => .normal st | false => .exit id' st)
  | .ret st => K (.ret st)
def condK (a b : CC) (env : Env) (own : Own) (ks : List Nat) (K : Out → Prop) (v : V) : Prop :=
  match v with
  | .bool true => a env own ks K
  | .bool false => b env own ks K
  | .anyb => Both (a env own ks K) (b env own ks K)
  | _ => False

def cSkip : CC := fun env own ks K => K (.normal ⟨env, own, ks⟩)
def cOps (P : Program) (l : List SI) : CC := fun env own ks K => vopsR P l env own ks (normK K)
def cDraw (P : Program) (l : List DI) : CC := fun env own ks K => vdrawR P l env own ks (normK K)
def cSeq (_ _ : SC) (a b : CC) : CC := fun env own ks K => a env own ks (seqK b K)
def cCond (c : X) (_ _ : SC) (a b : CC) : CC := fun env own ks K => c.get env (condK a b env own ks K)
def cBlock (id : Nat) (_ : SC) (b : CC) : CC := fun env own ks K => b env own ks (blockK id K)
def cLoop (P : Program) (N : Nat) (bk : List Nat) (b : SC) (_ : CC) : CC := fun env own ks K => LoopI P N bk b env own ks K
def cExit (id : Nat) : CC := fun env own ks K => K (.exit id ⟨env, own, ks⟩)
def cRet : CC := fun env own ks K => K (.ret ⟨env, own, ks⟩)
def cRf (P : Program) (N : Nat) (g : X) (ps : List Nat) (a b : SC) (_ _ : CC) : CC := fun env own ks K => RangeI P N g ps a b env own ks K
def vcR (P : Program) (N : Nat) (bk : List Nat) (c : SC) : CC := @SC.rec (fun _ => CC) cSkip (cOps P) (cDraw P) cSeq cCond cBlock (cLoop P N bk) cExit cRet (cRf P N) c

/-! ## it says the same -/

theorem vopsR_eq {P : Program} : ∀ (l : List SI), vopsR P l = vops P l
  | [] => by
    funext env own ks K
    simp only [vops]
    rfl
  | ⟨d, op, g⟩ :: r => by
    show oCons P ⟨d, op, g⟩ r (vopsR P r) = _
    rw [vopsR_eq r]
    funext env own ks K
    simp only [oCons, gopO]
    conv => rhs; unfold vops
    cases d <;> cases g with
    | none => rfl
    | some p =>
      obtain ⟨t, want⟩ := p
      simp only
      split
      · rename_i b hb
        simp only [hb]
        try rfl
        all_goals (cases Bool.xor b want <;> rfl)
      · rename_i us hb
        simp only [hb]
        try rfl
      · rename_i hne hne2
        split
        · rename_i b hb; exact (hne b hb).elim
        · rename_i us hb; exact (hne2 us hb).elim
        · rfl

theorem vdrawR_eq {P : Program} : ∀ (l : List DI), vdrawR P l = vdraw P l
  | [] => by
    funext env own ks K
    simp only [vdraw]
    rfl
  | .op ix ⟨d, op, g⟩ :: r => by
    show dCons P (.op ix ⟨d, op, g⟩) r (vdrawR P r) = _
    rw [vdrawR_eq r]
    funext env own ks K
    simp only [dCons, gop]
    conv => rhs; unfold vdraw
    unfold guardK
    cases d <;> cases g with
    | none => rfl
    | some p =>
      obtain ⟨t, want⟩ := p
      simp only
      split
      · rename_i b hb
        simp only [hb]
        try rfl
        all_goals (cases Bool.xor b want <;> rfl)
      · rename_i us hb
        simp only [hb]
        try rfl
      · rename_i hne hne2
        split
        · rename_i b hb; exact (hne b hb).elim
        · rename_i us hb; exact (hne2 us hb).elim
        · rfl
  | .eff ix pend held ⟨d, op, g⟩ :: r => by
    show dCons P (.eff ix pend held ⟨d, op, g⟩) r (vdrawR P r) = _
    rw [vdrawR_eq r]
    funext env own ks K
    simp only [dCons, effop]
    conv => rhs; unfold vdraw
    cases d <;> rfl

theorem vcR_eq {P : Program} {N : Nat} {bk : List Nat} (c : SC) : vcR P N bk c = vc P N bk c := by
  induction c with
  | skip => funext env own ks K; simp only [vc]; rfl
  | ops l =>
    show cOps P l = _
    funext env own ks K
    simp only [cOps, vopsR_eq, vc]
    rfl
  | draw l =>
    show cDraw P l = _
    funext env own ks K
    simp only [cDraw, vdrawR_eq, vc]
    rfl
  | seq a b iha ihb =>
    show cSeq a b (vcR P N bk a) (vcR P N bk b) = _
    rw [iha, ihb]
    funext env own ks K
    simp only [cSeq, vc]
    congr 1
    funext o
    cases o <;> rfl
  | cond c a b iha ihb =>
    show cCond c a b (vcR P N bk a) (vcR P N bk b) = _
    rw [iha, ihb]
    funext env own ks K
    simp only [cCond, vc]
    congr 1
    funext v
    cases v with
    | bool x => cases x <;> rfl
    | _ => rfl
  | block id b ih =>
    show cBlock id b (vcR P N bk b) = _
    rw [ih]
    funext env own ks K
    simp only [cBlock, vc]
    congr 1
    funext o
    cases o with
    | exit id' st => simp only [blockK]; cases Nat.beq id' id <;> rfl
    | _ => rfl
  | loop b ih => funext env own ks K; simp only [vc]; rfl
  | exit id => funext env own ks K; simp only [vc]; rfl
  | ret => funext env own ks K; simp only [vc]; rfl
  | rf g ps a b iha ihb => funext env own ks K; simp only [vc]; rfl

/-! ## the rules -/

def retK (rs : List RV) (K : V → Own → List Nat → Prop) (o : Out) : Prop :=
  match o with
  | .normal ⟨env, own, ks⟩ => resK env own rs fun vs => tupK vs fun v => K v own ks
  | .ret ⟨env, own, ks⟩ => resK env own rs fun vs => tupK vs fun v => K v own ks
  | .exit _ _ => False

theorem fn_rule {P : Program} (hm : P.follows .mixedOrders = true) {f : FuncId} {fn : Func} {c : Code} {sc : SC} {rs : List RV} (hf : P.funcs[f]? = some fn) (hb : fn.body = some c) (hc : cCode P fn.ntmps c = some sc)
    (hr : cRes P fn.results.toList = some rs) {args : List V} {own : Own} {ks : List Nat} {K : V → Own → List Nat → Prop} (hl : Nat.ble args.length fn.ntmps = true)
    (h : vcR P fn.ntmps ks sc (envOf 0 args) own ks (retK rs K)) : CallF P f args own ks K := by
  refine call_rule hm hf hb hc hr (Nat.le_of_ble_eq_true hl) ?_
  rw [vcR_eq] at h
  have e : retK rs K = fun o => match o with
      | .normal ⟨env, own, ks⟩ => resK env own rs fun vs => tupK vs fun v => K v own ks
      | .ret ⟨env, own, ks⟩ => resK env own rs fun vs => tupK vs fun v => K v own ks
      | .exit _ _ => False := by
    funext o
    cases o <;> rfl
  rw [e] at h
  exact h

/-- behind a loop's body -/
def headK {α : Type} (N : Nat) (chg : List Nat) (st : α → St) (I : Nat → α → Prop) (n : Nat) (K : Out → Prop) (o : Out) : Prop :=
  match o with
  | .normal st' => ∃ m x, m < n ∧ I m x ∧ Weak N chg st' (st x)
  | .exit id st => K (.exit id st)
  | .ret st => K (.ret st)

theorem loop_w {P : Program} (hm : P.follows .mixedOrders = true) {N : Nat} {bk : List Nat} {b : SC} {env : Env} {own : Own} {ks : List Nat} {K : Out → Prop} (live chg ks0 okeys : List Nat) {α : Type} (vals : α → Env) (ownf : α → Own) (I : Nat → α → Prop) (n0 : Nat) (x0 : α)
    (h0 : I n0 x0)
    (hchg : ((chg.all fun k => memN k bk && (memN k (own.map (·.1)) || memN k ks)) && (ks0.all fun k => memN k ks) && (okeys.all fun k => memN k (own.map (·.1)) || memN k ks)) = true)
    (hkeys : ∀ x, (ownf x).map (·.1) = okeys)
    (hw0 : Weak N chg ⟨env, own, ks⟩ ⟨vals x0 ++ selE env live, ownf x0, ks0⟩)
    (step : ∀ n x, I n x → vcR P N bk b (vals x ++ selE env live) (ownf x) ks0 (headK N chg (fun x => ⟨vals x ++ selE env live, ownf x, ks0⟩) I n K)) : LoopI P N bk b env own ks K := by
  simp only [Bool.and_eq_true] at hchg
  obtain ⟨⟨h1, h2⟩, h3⟩ := hchg
  refine loop_var hm live chg ks0 vals ownf I n0 x0 h0 h1 h2 okeys h3 hkeys hw0 ?_
  intro n x hI
  have := step n x hI
  rw [vcR_eq] at this
  have e : headK N chg (fun x => ⟨vals x ++ selE env live, ownf x, ks0⟩) I n K = fun o => match o with
      | .normal st => ∃ m st', m < n ∧ Weak N chg st st' ∧ ∃ x, I m x ∧ st' = ⟨vals x ++ selE env live, ownf x, ks0⟩
      | o => K o := by
    funext o
    cases o with
    | normal st =>
      apply propext
      constructor
      · rintro ⟨m, x, a, b, c⟩; exact ⟨m, _, a, c, x, b, rfl⟩
      · rintro ⟨m, _, a, c, x, b, rfl⟩; exact ⟨m, x, a, b, c⟩
    | _ => rfl
  rw [e] at this
  exact this

theorem loop_r {P : Program} (hm : P.follows .mixedOrders = true) {N : Nat} {bk : List Nat} {b : SC} {env : Env} {own : Own} {ks : List Nat} {K : Out → Prop} (live : List Nat) {α : Type} (vals : α → Env) (I : Nat → α → Prop) (n0 : Nat) (x0 : α)
    (h0 : I n0 x0)
    (hw0 : Weak N [] ⟨env, own, ks⟩ ⟨vals x0 ++ selE env live, own, ks⟩)
    (step : ∀ n x, I n x → vcR P N bk b (vals x ++ selE env live) own ks (headK N [] (fun x => ⟨vals x ++ selE env live, own, ks⟩) I n K)) : LoopI P N bk b env own ks K :=
  loop_w hm live [] ks (own.map (·.1)) vals (fun _ => own) I n0 x0 h0 (by simp only [Bool.and_eq_true, List.all_eq_true, Bool.or_eq_true, memN_iff]; exact ⟨⟨by simp, fun k hk => hk⟩, fun k hk => .inl hk⟩) (fun _ => rfl) hw0 step

/-- the name of the slice in a cell -/
def ckey (own : Own) (k i : Nat) : Nat := match look own k with
  | some (.cells cs) => match nth cs i with
    | some (.vec q _ _ _) => q
    | some (.loc q _) => q
    | some (.map q) => q
    | _ => 0
  | _ => 0

theorem postR_by {ks : List Nat} {v : V} {own' : Own} {K : V → Own → List Nat → Prop} (mk : Own → Rn) (v2 : V) (own2 : Own) (hK : K v2 own2 [])
    (hv : VRen (mk own') v v2) (ho : OwnRen (mk own') own' own2) (hc : (nodupB (own2.map (·.1)) && rnB (mk own') && chgB ks (mk own')) = true) : PostR ks v own' K := by
  simp only [Bool.and_eq_true] at hc
  exact ⟨mk own', v2, own2, [], hv, ho, by simp [nodupB, ksB, hc], hK⟩

/-- the name of the slice at a place of a struct, if it is not nil -/
def vkey (v : V) (i : Nat) : Option Nat := match v with
  | .agg cs => match nth cs i with
    | some (.vec q _ _ _) => some q
    | some (.loc q _) => some q
    | some (.map q) => some q
    | _ => none
  | .vec q _ _ _ => some q
  | .loc q _ => some q
  | .map q => some q
  | _ => none
def ckeyo (own : Own) (k i : Nat) : Option Nat := match look own k with
  | some (.cells cs) => match nth cs i with
    | some v => vkey v 0
    | none => none
  | _ => none

theorem postR_byV {ks : List Nat} {v : V} {own' : Own} {K : V → Own → List Nat → Prop} (mk : V → Own → Rn) (v2 : V) (own2 : Own) (hK : K v2 own2 [])
    (hv : VRen (mk v own') v v2) (ho : OwnRen (mk v own') own' own2) (hc : (nodupB (own2.map (·.1)) && rnB (mk v own') && chgB ks (mk v own')) = true) : PostR ks v own' K := by
  simp only [Bool.and_eq_true] at hc
  exact ⟨mk v own', v2, own2, [], hv, ho, by simp [nodupB, ksB, hc], hK⟩

theorem call_by {P : Program} {f : FuncId} {args args0 : List V} {own own0 : Own} {ks ks0 : List Nat} {K : V → Own → List Nat → Prop} (ρ : Rn) (nk : List Nat)
    (h : CallF P f args0 own0 ks0 fun v own' _ => backK own ks ρ nk v own' K)
    (hargs : LRen ρ args args0) (hown : OwnRen ρ own own0) (h1 : (nodupB ks0 && nodupB (own0.map (·.1)) && rnB ρ && ksB ρ ks0 && (ρ.all fun p => memN p.1 (own0.map (·.1)))) = true) : CallF P f args own ks K :=
  call_at ρ nk hargs hown h1 h

/-! ## what a function hands back, frozen -/

def LLe : List V → List V → Prop
  | [], [] => True
  | v :: r, v' :: r' => VLe v v' ∧ LLe r r'
  | _, _ => False

theorem LLe.out : ∀ {cs cs' : List V}, LLe cs cs' → cs'.length = cs.length ∧ ∀ (i : Nat) (v v' : V), cs[i]? = some v → cs'[i]? = some v' → VLe v v'
  | [], [], _ => ⟨rfl, fun i v v' h => by simp at h⟩
  | v :: r, v' :: r', h => by
    obtain ⟨l, hr⟩ := LLe.out h.2
    refine ⟨by simp [l], fun i x x' hx hx' => ?_⟩
    cases i with
    | zero => simp at hx hx'; subst hx hx'; exact h.1
    | succ i => exact hr i x x' (by simpa using hx) (by simpa using hx')
  | [], _ :: _, h => h.elim
  | _ :: _, [], h => h.elim

theorem VLe.agg {cs cs' : List V} (h : LLe cs cs') : VLe (.agg cs) (.agg cs') :=
  ⟨fun M w u hd => by
    obtain ⟨l, hr⟩ := h.out
    cases hd with
    | agg _ _ us hl hd =>
      refine .agg _ _ _ (by omega) fun i v u hv hu => ?_
      have hi : i < cs.length := by rw [← l]; exact (List.getElem?_eq_some_iff.1 hv).1
      exact (hr i cs[i] v (by simp [hi]) hv).out M w u (hd i cs[i] u (by simp [hi]) hu)⟩
theorem VLe.tup {cs cs' : List V} (h : LLe cs cs') : VLe (.tup cs) (.tup cs') :=
  ⟨fun M w u hd => by
    obtain ⟨l, hr⟩ := h.out
    cases hd with
    | tup _ _ us hl hd =>
      refine .tup _ _ _ (by omega) fun i v u hv hu => ?_
      have hi : i < cs.length := by rw [← l]; exact (List.getElem?_eq_some_iff.1 hv).1
      exact (hr i cs[i] v (by simp [hi]) hv).out M w u (hd i cs[i] u (by simp [hi]) hu)⟩
theorem VLe.int {k : IntKind} {a b : Int} (h : a = b) : VLe (.int k a) (.int k b) := by subst h; exact .rfl
theorem VLe.bool {a b : Bool} (h : a = b) : VLe (.bool a) (.bool b) := by subst h; exact .rfl

/-- A call that leaves everything as it was and hands back X. -/
def Ret (P : Program) (f : FuncId) (args : List V) (X : V) : Prop := ∀ own ks, CallF P f args own ks fun v o k => v = X ∧ o = own ∧ k = ks

theorem ret_frz {P : Program} {f : FuncId} {args : List V} {X : V} (hk : allB V.kf args = true) (h : CallF P f args [] KS fun v own' _ => frzT own' v fun v' => VLe v' X) : Ret P f args X := by
  intro own ks
  constructor
  intro M w σ us hlen hd hh
  refine (h.out M w Sg.none us hlen (fun i v u hv hu => (hd i v u hv hu).kf (allB_mem hk v (List.mem_of_getElem? hv)) Sg.none) (hsim_nothing KS KS_nodup)).mono ?_
  rintro e w' ⟨M', σ', v, own', ks', u, rfl, hv, hh', tr, _, hfr⟩
  obtain ⟨v', hK, hv'⟩ := frzT_sound hfr
  have hM : ∀ b, b < w.heap.size → (lent M' w' σ' own' b ↔ M b) := by
    intro b hb
    have hno : ¬ owned w' σ' own' b := fun ho => by
      rcases tr.new b ho with h1 | h1
      · exact owned_nil h1
      · omega
    constructor
    · intro h1; exact (tr.adv.muts b hb owned_nil).1 h1.1
    · intro h1; exact ⟨(tr.adv.muts b hb owned_nil).2 h1, hno⟩
  have hfr := hsim_frame (M'' := lent M' w' σ' own') hh tr hM
  exact ⟨_, σ, X, own, ks, u, rfl, (hK.out _ _ _ (hv' M' w' σ' u hh'.own hv)).mono (Ext.mk (fun _ _ h => ⟨h, rfl⟩) (Nat.le_refl _)) (Sg.none_le σ), hfr.1, hfr.2, Kd.refl _ _ _, rfl, rfl, rfl⟩

/-- the name of what a slot holds -/
def ekey (env : Env) (t : Nat) : Option Nat := match look env t with
  | some v => vkey v 0
  | none => none

theorem weak_by {N : Nat} {chg : List Nat} {env env' : Env} {own own' : Own} {ks ks' : List Nat} (mk : Env → Own → Rn) (he : EnvRen (mk env own) env env') (ho : OwnRen (mk env own) own own')
    (h1 : (nodupB ks' && nodupB (own'.map (·.1)) && rnB (mk env own) && chgB chg (mk env own) && ksB (mk env own) ks') = true) : Weak N chg ⟨env, own, ks⟩ ⟨env', own', ks'⟩ := by
  simp only [Bool.and_eq_true] at h1
  obtain ⟨⟨⟨⟨a, b⟩, c⟩, d⟩, e⟩ := h1
  exact weak_ren (mk env own) he ho a b c d e

theorem Br.tt {A B : Prop} (h : A) : Br true A B := Br.mk (fun _ => h) (fun e => Bool.noConfusion e)
theorem Br.ff {A B : Prop} (h : B) : Br false A B := Br.mk (fun e => Bool.noConfusion e) (fun _ => h)

end Go.Eng
