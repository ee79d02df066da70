import Derived.Test.YtffdoihhjfjgoaaGreatDoorM3
/- Calls; all operations in one. -/
namespace Go.Ab
open Go Go.Chr Go.RowKit
def evalL (ρ : Operand → Option AV) : List Operand → Option (List AV)
 | [] => some []
 | x :: l => match ρ x, evalL ρ l with
  | some a, some as => some (a :: as)
  | _, _ => none
def aCall (Γ : Tab) (f : FuncId) (args : List Operand) (ρ : Operand → Option AV) (h : Heap) (nx : Nat) (k : OpR → Prop) : Prop := match getK Γ f with
 | some F => match evalL ρ args with
  | some as => F as h nx k
  | none => False
 | none => False
def aOp (C : Ctx) (Γ : Tab) : OpK := fun h nx o ρ k => match o.op with
 | .move x => match ρ x with
  | some a => k ⟨a, [], [], []⟩
  | none => False
 | .assign x => match ρ x with
  | some a => k ⟨a, [], [], []⟩
  | none => False
 | .alloc t => aAlloc C nx t k
 | .box t x => match ρ x with
  | some a => aBox C nx t a k
  | none => False
 | .build t parts => aBuild C t parts.toList ρ k
 | .load t x => match ρ x with
  | some a => aLoad C h t a k
  | none => False
 | .store t x y => match ρ x, ρ y with
  | some a, some b => aStore C h t a b k
  | _, _ => False
 | .binOp op t x y _ => match ρ x, ρ y with
  | some a, some b => aBin C op t a b k
  | _, _ => False
 | .unOp op _ x => match ρ x with
  | some a => aUn op a k
  | none => False
 | .convert s d x => match ρ x with
  | some a => aConv C s d a k
  | none => False
 | .fieldAddr t x f => match ρ x with
  | some a => aField C t a f k
  | none => False
 | .indexAddr t x y => match ρ x, ρ y with
  | some a, some b => aIndexAddr C t a b k
  | _, _ => False
 | .extract x i => match ρ x with
  | some a => aExtract a i k
  | none => False
 | .call c => match c with
  | ⟨.value (.func f), args, _⟩ => aCall Γ f args.toList ρ h nx k
  | ⟨.builtin .len, args, ts⟩ => match args.toList, ts.toList with
   | [x], [t] => match ρ x with
    | some a => aLen C t a k
    | none => False
   | _, _ => False
  | _ => False
 | _ => False
section
variable {C : Ctx} {ι : Nat → Option Loc} {N : Nat → Prop} {w : World} {nx : Nat} {r : OpR} {o : Oper} {ρ : Operand → Option AV}
theorem evalL_rel {a : Act} : ∀ {l : List Operand} {as : List AV}, evalL ρ l = some as → (∀ x v, x ∈ l → ρ x = some v → v.val ι N w (a.eval x)) → valsRel ι N w as (l.map a.eval)
 | [], as, h, _ => by injection h with h; subst h; rfl
 | x :: l, as, h, hm => by
  unfold evalL at h
  split at h
  ·rename_i u us hu hus
   injection h with h; subst h
   exact ⟨_, _, rfl, hm x u (by simp) hu, evalL_rel hus fun y v hy => hm y v (List.mem_cons_of_mem _ hy)⟩
  ·cases h
theorem run_call {P : Program} {f : FuncId} {args : Array Value} (w : World)
  (hfn : (P.funcs[f]?).map (fun fn => (fn.name == "runtime.NumGoroutine", fn.body.isSome)) = some (false, true)) : (callFunc f args).run P w = .ok (.enter f args) w := by
 cases hf : P.funcs[f]? with
 | none => rw [hf] at hfn; cases hfn
 | some fn =>
  rw [hf] at hfn
  simp only [Option.map_some, Option.some.injEq, Prod.mk.injEq] at hfn
  obtain ⟨h1, h2⟩ := hfn
  have h3 : ¬ fn.body = none := by cases hb : fn.body <;> simp_all
  simp [callFunc, hf, h1]
  rw [if_neg (by simpa using h1), if_neg h3]
theorem CallSound.fits {f : FuncId} {args : List AV} (hfn : (C.P.funcs[f]?).map (fun fn => (fn.name == "runtime.NumGoroutine", fn.body.isSome)) = some (false, true))
  (h : CallSound C f args nx r) : CallFits C f args nx r := by
 intro ι N w vs hp hv
 unfold CallOuts
 rw [run_call w hfn]
 refine Calls.mono (h ι N w vs hp hv) ?_
 rintro e w' ⟨v, rfl, h⟩
 exact h
theorem exec_call {a : Act} {f : FuncId} {args : Array Operand} {ts : Array TypeId} (ho : o.op = .call ⟨.value (.func f), args, ts⟩) : execOp a.eval o = callFunc f (args.toList.map a.eval).toArray := by
 have e : execOp a.eval o = callFunc f (#[] ++ args.map a.eval ++ #[]) := by
  unfold execOp
  simp only [ho]
  rfl
 have h4 : (List.map a.eval args.toList).toArray = Array.map a.eval args := by rw [← Array.toList_map]
 rw [e, h4]
 simp
theorem sound_call {h : Heap} {Γ : Tab} (hΓ : TabOk C Γ) {f : FuncId} {args : Array Operand} {ts : Array TypeId} (ho : o.op = .call ⟨.value (.func f), args, ts⟩) {k : OpR → Prop} (hk : aCall Γ f args.toList ρ h nx k) :
  ∃ r, OpSound C nx o ρ r ∧ r.Ok ∧ (∀ q ∈ r.rds, getK h q.1 = some q.2) ∧ k r := by
 unfold aCall at hk
 split at hk
 ·rename_i F hF
  split at hk
  ·rename_i as has
   obtain ⟨r, hc, hok, hr, hk⟩ := (hΓ f F hF).ok _ _ _ _ hk
   refine ⟨r, ?_, hok, hr, hk⟩
   intro ι N w a hp hop
   have := hc ι N w _ hp (evalL_rel has fun x v hx => hop x v (by rw [ho]; simp [Op.operands, Call.operands]; exact .inr (by simpa using hx)))
   unfold CallOuts at this
   unfold Outs
   rw [exec_call ho]
   generalize (callFunc f (List.map a.eval args.toList).toArray).run C.P w = z at this
   cases z with
   | ok n w' =>
    cases n with
    | value u => exact this
    | enter g as' => exact this
    | _ => exact this.elim
   | halt x w' => exact this.elim
  ·exact hk.elim
 ·exact hk.elim
theorem aOp_sound {Γ : Tab} (hΓ : TabOk C Γ) : OpKSound C (aOp C Γ) := by
 intro h nx o ρ k hk
 unfold aOp at hk
 split at hk
 ·rename_i x ho
  split at hk
  ·rename_i a hx; exact sound_move (.inl ho) hx hk
  ·exact hk.elim
 ·rename_i x ho
  split at hk
  ·rename_i a hx; exact sound_move (.inr ho) hx hk
  ·exact hk.elim
 ·rename_i t ho; exact sound_alloc ho hk
 ·rename_i t x ho
  split at hk
  ·rename_i a hx; exact sound_box ho hx hk
  ·exact hk.elim
 ·rename_i t parts ho; exact sound_build ho hk
 ·rename_i t x ho
  split at hk
  ·rename_i a hx; exact sound_load ho hx hk
  ·exact hk.elim
 ·rename_i t x y ho
  split at hk
  ·rename_i a b hx hy; exact sound_store ho hx hy hk
  ·exact hk.elim
 ·rename_i op t x y ty ho
  split at hk
  ·rename_i a b hx hy; exact sound_bin ho hx hy hk
  ·exact hk.elim
 ·rename_i op t x ho
  split at hk
  ·rename_i a hx; exact sound_un ho hx hk
  ·exact hk.elim
 ·rename_i s d x ho
  split at hk
  ·rename_i a hx; exact sound_conv ho hx hk
  ·exact hk.elim
 ·rename_i t x f ho
  split at hk
  ·rename_i a hx; exact sound_field ho hx hk
  ·exact hk.elim
 ·rename_i t x y ho
  split at hk
  ·rename_i a b hx hy; exact sound_indexAddr ho hx hy hk
  ·exact hk.elim
 ·rename_i x i ho
  split at hk
  ·rename_i a hx; exact sound_extract ho hx hk
  ·exact hk.elim
 ·rename_i c ho
  split at hk
  ·exact sound_call hΓ ho hk
  ·rename_i args ts
   split at hk
   ·rename_i x t h1 h2
    have e1 : args = #[x] := by rw [← Array.toArray_toList (xs := args), h1]
    have e2 : ts = #[t] := by rw [← Array.toArray_toList (xs := ts), h2]
    subst e1; subst e2
    split at hk
    ·rename_i a hx; exact sound_len ho hx hk
    ·exact hk.elim
   ·exact hk.elim
  ·exact hk.elim
 ·exact hk.elim
end
end Go.Ab
/- Code: a walk through abstract states. -/
namespace Go.Ab
open Go Go.Chr Go.RowKit
def Walks (C : Ctx) (X : Snap) (c : Code) (st : St) (k : Exit → St → Prop) : Prop :=
 ∀ a w, SRel C X st a w → c.wp C.P (fun e a' w' => ∃ st', SRel C X st' a' w' ∧ k e st') a w
def edgesBack (i : Nat) : List Edge → Bool
 | [] => true
 | e :: l => (!Region.binds .any e || Nat.blt e.on i) && edgesBack i l
def backOK : Nat → List Oper → Bool
 | _, [] => true
 | i, o :: l => edgesBack i o.after.toList && backOK (i + 1) l
theorem edgesBack_ok {i : Nat} : ∀ {l : List Edge}, edgesBack i l = true → ∀ e ∈ l, Region.binds .any e = true → e.on < i
 | [], _, e, he, _ => by cases he
 | x :: l, h, e, he, hb => by
  unfold edgesBack at h
  simp only [Bool.and_eq_true, Bool.or_eq_true, Bool.not_eq_true'] at h
  rcases List.mem_cons.1 he with rfl | he
  ·rcases h.1 with h1 | h1
   ·rw [h1] at hb; cases hb
   ·exact Nat.le_of_ble_eq_true h1
  ·exact edgesBack_ok h.2 e he hb
theorem backOK_ok : ∀ {l : List Oper} {i : Nat}, backOK i l = true → ∀ j o, l[j]? = some o → ∀ e ∈ o.after, Region.binds .any e = true → e.on < i + j
 | [], _, _, j, o, ho, _, _, _ => by simp at ho
 | x :: l, i, h, j, o, ho, e, he, hb => by
  unfold backOK at h
  simp only [Bool.and_eq_true] at h
  cases j with
  | zero =>
   simp at ho; subst ho
   exact edgesBack_ok h.1 e (by simpa using he) hb
  | succ j =>
   have := backOK_ok h.2 j o (by simpa using ho) e he hb
   omega
theorem ready_all {ops : List Oper} (h : backOK 0 ops = true) (l : Array Bool) (hsz : l.size = ops.length) (hr : Region.ready .any ops.toArray l = []) : ∀ i, i < ops.length → l.getD i false = true := by
 intro i
 induction i using Nat.strongRecOn with
 | _ i ih =>
  intro hi
  cases hl : l.getD i false with
  | true => rfl
  | false =>
   exfalso
   have hm : i ∈ Region.ready .any ops.toArray l := by
    rw [mem_ready]
    refine ⟨?_, ops[i], by simp [hi], fun e he hb => ?_⟩
    ·rw [Array.getD_eq_getD_getElem?] at hl ⊢
     rw [Array.getElem?_eq_getElem (by omega)] at hl ⊢
     exact hl
    ·have := backOK_ok h i ops[i] (by simp [hi]) e he hb
     exact ih e.on (by omega) (by omega)
   rw [hr] at hm
   cases hm
def thenK (g : St → Prop) (k : Exit → St → Prop) : Exit → St → Prop
 | .normal, st => g st
 | e, st => k e st
def blockK (id : Nat) (k : Exit → St → Prop) : Exit → St → Prop
 | .exit i, st => cond (Nat.beq i id) (k .normal st) (k (.exit i) st)
 | e, st => k e st
section
variable {C : Ctx} {X : Snap} {K : OpK} {cut : List Nat}
theorem SRel.eqv {st st' : St} {a : Act} {w : World} (h : SRel C X st a w) (he : st.Eqv st') : SRel C X st' a w := by
 obtain ⟨ι, N, H⟩ := h
 refine ⟨ι, N, ?_⟩
 unfold Rel at *
 rw [← he.sl, ← he.h, ← he.nx, ← he.nt]
 exact H
theorem Walks.mono {c : Code} {st : St} {k k' : Exit → St → Prop} (h : Walks C X c st k) (hk : ∀ e st, k e st → k' e st) : Walks C X c st k' :=
 fun a w H => wp_mono (h a w H) fun e _ _ ⟨st', h1, h2⟩ => ⟨st', h1, hk e st' h2⟩
theorem walks_seq {a b : Code} {st : St} {g : St → Prop} {k : Exit → St → Prop} (h : Walks C X a st (thenK g k)) (hb : ∀ st', g st' → Walks C X b st' k) : Walks C X (.seq a b) st k := by
 intro act w H
 refine wp_seq (wp_mono (h act w H) ?_)
 rintro e a' w' ⟨st', h1, h2⟩
 cases e with
 | normal => exact hb st' h2 a' w' h1
 | exit i => exact ⟨st', h1, h2⟩
 | goto l => exact ⟨st', h1, h2⟩
 | ret => exact ⟨st', h1, h2⟩
 | panic ch => exact ⟨st', h1, h2⟩
 | outgrown => exact ⟨st', h1, h2⟩
theorem walks_cond {x : Operand} {a b : Code} {st : St} {t : Bool} (hx : evalO C st x = some (.c (.bool t))) {k : Exit → St → Prop} (ha : t = true → Walks C X a st k) (hb : t = false → Walks C X b st k) : Walks C X (.cond x a b) st k := by
 rintro act w ⟨ι, N, H⟩
 have e : act.eval x = .bool t := val_bool (evalO_rel (fun t u _ ht => H.slots t u ht) hx)
 exact wp_cond_split e (fun ht => ha ht act w ⟨ι, N, H⟩) (fun ht => hb ht act w ⟨ι, N, H⟩)
theorem walks_block {id : Nat} {b : Code} {st : St} {k : Exit → St → Prop} (h : Walks C X b st (blockK id k)) : Walks C X (.block id b) st k := by
 intro act w H
 refine wp_block (wp_mono (h act w H) ?_)
 rintro e a' w' ⟨st', h1, h2⟩
 cases e with
 | normal => exact ⟨st', h1, h2⟩
 | exit i =>
  simp only [Exit.inBlock]
  by_cases hi : i = id
  ·subst hi
   rw [if_pos rfl]
   refine ⟨st', h1, ?_⟩
   have h2 : cond (Nat.beq i i) (k .normal st') (k (.exit i) st') := h2
   rw [Nat.beq_refl] at h2
   exact h2
  ·rw [if_neg hi]
   refine ⟨st', h1, ?_⟩
   have h2 : cond (Nat.beq i id) (k .normal st') (k (.exit i) st') := h2
   rw [beqF hi] at h2
   exact h2
 | goto l => exact ⟨st', h1, h2⟩
 | ret => exact ⟨st', h1, h2⟩
 | panic ch => exact ⟨st', h1, h2⟩
 | outgrown => exact ⟨st', h1, h2⟩
theorem walks_loop {b : Code} {k : Exit → St → Prop} (I : Nat → St → Prop) (hr : ∀ n st, I n st → Walks C X b st (thenK (fun st' => ∃ m, m < n ∧ I m st') k)) :
  ∀ n st, I n st → Walks C X (.loop b) st k := by
 intro n st hI act w H b' kk cs
 have key : ∀ n st a w, I n st → SRel C X st a w →
   ∃ e a' w', (∃ st', SRel C X st' a' w' ∧ k e st') ∧ Arrives C.P (lone (b'.at a (.code b :: .inLoop b :: kk)) cs w) b' kk cs e a' w' := by
  intro n
  induction n using Nat.strongRecOn with
  | _ n ih =>
   intro st a w hI H
   obtain ⟨e, a₁, w₁, ⟨st₁, H₁, hq⟩, harr⟩ := hr n st hI a w H b' (.inLoop b :: kk) cs
   cases e with
   | normal =>
    obtain ⟨m, hm, hI₁⟩ := hq
    obtain ⟨e₂, a₂, w₂, hq₂, harr₂⟩ := ih m hm st₁ a₁ w₁ hI₁ H₁
    exact ⟨e₂, a₂, w₂, hq₂, .of_steps (Steps.trans harr (.one step_inLoop)) harr₂⟩
   | exit id => exact ⟨_, a₁, w₁, ⟨st₁, H₁, hq⟩, .pass (x := .inLoop b) rfl (fun _ _ => .inl (by simp)) harr⟩
   | goto l => exact ⟨_, a₁, w₁, ⟨st₁, H₁, hq⟩, .pass (x := .inLoop b) rfl (fun _ _ => .inl (by simp)) harr⟩
   | ret => exact ⟨_, a₁, w₁, ⟨st₁, H₁, hq⟩, .pass (x := .inLoop b) rfl (fun _ _ => .inl (by simp)) harr⟩
   | panic ch => exact ⟨_, a₁, w₁, ⟨st₁, H₁, hq⟩, .pass (x := .inLoop b) rfl (fun _ _ => .inl (by simp)) harr⟩
   | outgrown => exact ⟨_, a₁, w₁, ⟨st₁, H₁, hq⟩, .pass (x := .inLoop b) rfl (fun _ _ => .inl (by simp)) harr⟩
 obtain ⟨e, a', w', hq, harr⟩ := key n st act w hI H
 exact ⟨e, a', w', hq, .of_steps (.one step_loop) harr⟩
end
end Go.Ab
/- Names of own blocks: other names, names in their order. -/
namespace Go.Ab
open Go Go.Chr Go.RowKit
def Base.ren (τ : Nat → Nat) : Base → Base
 | .l n => .l (τ n)
 | .g n => .g n
def AV.ren (τ : Nat → Nat) : AV → AV
 | .c v => .c v
 | .ptr b i e o => .ptr (b.ren τ) i e o
 | .cp v i o => .cp v i o
 | .own b e n => .own (τ b) e n
 | .sub b e i n => .sub (τ b) e i n
 | .inn b i e o s n => .inn (b.ren τ) i e o s n
 | .pr a b => .pr (a.ren τ) (b.ren τ)
 | .t0 => .t0
 | .t2 a b => .t2 (a.ren τ) (b.ren τ)
 | .t3 a b e => .t3 (a.ren τ) (b.ren τ) (e.ren τ)
 | .fn f caps => .fn f (caps.ren τ)
 | .hd k b => .hd k (τ b)
def renL (τ : Nat → Nat) : List AV → List AV
 | [] => []
 | a :: l => a.ren τ :: renL τ l
def Body.ren (τ : Nat → Nat) : Body → Body
 | .els l => .els (renL τ l)
 | b => b
def Blk'.ren (τ : Nat → Nat) : Blk' → Blk'
 | .cells ty e b => .cells ty e (b.ren τ)
 | .map t m => .map t m
 | .opt a ty e b => .opt a ty e (b.ren τ)
section
variable {ι ι' : Nat → Option Loc} {N N' : Nat → Prop} {w w' : World} {τ : Nat → Nat}
theorem locOf_ren (b : Base) : locOf ι (b.ren τ) = locOf (fun n => ι (τ n)) b := by cases b <;> rfl
theorem AV.ren_isAgg : ∀ a : AV, (a.ren τ).isAgg = a.isAgg
 | .c _ => rfl
 | .ptr _ _ _ _ => rfl
 | .cp _ _ _ => rfl
 | .own _ _ _ => rfl
 | .sub _ _ _ _ => rfl
 | .inn _ _ _ _ _ _ => rfl
 | .pr _ _ => rfl
 | .t0 => rfl
 | .t2 _ _ => rfl
 | .t3 _ _ _ => rfl
 | .fn _ _ => rfl
 | .hd _ _ => rfl
theorem asVal_congr {b b' : Bool} {p q : List Value → Prop} {v : Value} (hb : b = b') (h : ∀ x, p x ↔ q x) : asVal b p v ↔ asVal b' q v := by
 subst hb
 exact ⟨fun hv => hv.mono fun x => (h x).1, fun hv => hv.mono fun x => (h x).2⟩
theorem AV.rel_ren : ∀ (a : AV) (cs : List Value), (a.ren τ).rel ι N w cs ↔ a.rel (fun n => ι (τ n)) N w cs
 | .c _, _ => Iff.rfl
 | .ptr b _ _ _, _ => by unfold AV.ren AV.rel; rw [locOf_ren]
 | .cp _ _ _, _ => Iff.rfl
 | .own _ _ _, _ => Iff.rfl
 | .sub _ _ _ _, _ => Iff.rfl
 | .inn b _ _ _ _ _, _ => by unfold AV.ren AV.rel; rw [locOf_ren]
 | .pr a b, _ => by
  unfold AV.ren AV.rel
  simp only [AV.rel_ren a, AV.rel_ren b]
 | .t0, _ => Iff.rfl
 | .t2 a b, _ => by
  unfold AV.ren AV.rel
  simp only [asVal_congr (AV.ren_isAgg a) (AV.rel_ren a), asVal_congr (AV.ren_isAgg b) (AV.rel_ren b)]
 | .t3 a b e, _ => by
  unfold AV.ren AV.rel
  simp only [asVal_congr (AV.ren_isAgg a) (AV.rel_ren a), asVal_congr (AV.ren_isAgg b) (AV.rel_ren b), asVal_congr (AV.ren_isAgg e) (AV.rel_ren e)]
 | .fn _ caps, _ => by
  unfold AV.ren AV.rel
  simp only [AV.rel_ren caps]
 | .hd _ _, _ => Iff.rfl
theorem AV.val_ren (a : AV) (v : Value) : (a.ren τ).val ι N w v ↔ a.val (fun n => ι (τ n)) N w v := asVal_congr (AV.ren_isAgg a) (AV.rel_ren a)
theorem renL_rel {sz : Nat} : ∀ (l : List AV) (cs : List Value), relList sz (fun a => a.rel ι N w) (renL τ l) cs ↔ relList sz (fun a => a.rel (fun n => ι (τ n)) N w) l cs
 | [], _ => Iff.rfl
 | a :: l, _ => by
  unfold renL relList
  simp only [AV.rel_ren a, renL_rel l]
theorem renL_len : ∀ l : List AV, (renL τ l).length = l.length
 | [] => rfl
 | _ :: l => by unfold renL; simp [renL_len l]
theorem Body.rel_ren {esz : Nat} : ∀ (b : Body) (cs : List Value), (b.ren τ).rel ι N w esz cs ↔ b.rel (fun n => ι (τ n)) N w esz cs
 | .ints _ _, _ => Iff.rfl
 | .rows _ _, _ => Iff.rfl
 | .els l, _ => renL_rel l _
theorem Body.ren_len : ∀ b : Body, (b.ren τ).len = b.len
 | .ints _ _ => rfl
 | .rows _ _ => rfl
 | .els l => renL_len l
theorem Blk'.rel_ren {L : Loc} : ∀ b : Blk', BlkRel ι N w L (b.ren τ) ↔ BlkRel (fun n => ι (τ n)) N w L b
 | .cells ty e b => by
  unfold Blk'.ren BlkRel Lies
  simp only [Body.rel_ren, Body.ren_len]
 | .map _ _ => Iff.rfl
 | .opt a ty e b => by
  unfold Blk'.ren BlkRel Lies
  simp only [Body.rel_ren, Body.ren_len]
end
def normV : AV → AV
 | .t2 a b => .t2 (normA a) (normA b)
 | .t3 a b e => .t3 (normA a) (normA b) (normA e)
 | a => normA a
def normL : List AV → List AV
 | [] => []
 | a :: l => normA a :: normL l
def nB : Blk' → Blk'
 | .cells ty e (.els l) => .cells ty e (.els (normL l))
 | .opt a ty e (.els l) => .opt a ty e (.els (normL l))
 | b => b
section
variable {ι : Nat → Option Loc} {N : Nat → Prop} {w : World}
theorem joinA_isAgg (a b : AV) : (joinA a b).isAgg = true := by
 unfold joinA
 split <;> rfl
theorem normA_isAgg : ∀ a : AV, (normA a).isAgg = a.isAgg
 | .c v => normC_isAgg v
 | .pr a b => joinA_isAgg _ _
 | .ptr _ _ _ _ => rfl
 | .cp _ _ _ => rfl
 | .own _ _ _ => rfl
 | .sub _ _ _ _ => rfl
 | .inn _ _ _ _ _ _ => rfl
 | .t0 => rfl
 | .t2 _ _ => rfl
 | .t3 _ _ _ => rfl
 | .fn _ _ => rfl
 | .hd _ _ => rfl
theorem normA_as {a : AV} {v : Value} (h : asVal a.isAgg (fun x => a.rel ι N w x) v) : asVal (normA a).isAgg (fun x => (normA a).rel ι N w x) v := by
 rw [normA_isAgg]
 exact h.mono fun _ hx => normA_rel hx
theorem normV_val {a : AV} {v : Value} (h : a.val ι N w v) : (normV a).val ι N w v := by
 unfold normV
 split
 ·obtain ⟨v1, v2, e, h1, h2⟩ := h
  exact ⟨v1, v2, e, normA_as h1, normA_as h2⟩
 ·obtain ⟨v1, v2, v3, e, h1, h2, h3⟩ := h
  exact ⟨v1, v2, v3, e, normA_as h1, normA_as h2, normA_as h3⟩
 ·exact normA_as h
theorem normL_rel {sz : Nat} : ∀ {l : List AV} {cs : List Value}, relList sz (fun a => a.rel ι N w) l cs → relList sz (fun a => a.rel ι N w) (normL l) cs
 | [], _, h => h
 | _ :: _, _, ⟨c1, c2, e, hs, h1, h2⟩ => ⟨c1, c2, e, hs, normA_rel h1, normL_rel h2⟩
theorem normL_len : ∀ l : List AV, (normL l).length = l.length
 | [] => rfl
 | _ :: l => by unfold normL; simp [normL_len l]
theorem nB_rel {L : Loc} {b : Blk'} (h : BlkRel ι N w L b) : BlkRel ι N w L (nB b) := by
 unfold nB
 split
 ·rename_i ty e l
  rcases h with ⟨h1, h2, h3, h4⟩ | ⟨hp, pre, xs, post, hl, ht⟩
  ·exact .inl ⟨h1, normL_rel h2, (normL_len l).trans h3, h4⟩
  ·exact .inr ⟨hp, pre, xs, post, ⟨hl.1, hl.2.1, normL_rel hl.2.2.1, (normL_len l).trans hl.2.2.2⟩, ht⟩
 ·rename_i a ty e l
  rcases h with h | ⟨ha, hp, pre, xs, post, hl, ht⟩
  ·exact .inl h
  ·exact .inr ⟨ha, hp, pre, xs, post, ⟨hl.1, hl.2.1, normL_rel hl.2.2.1, (normL_len l).trans hl.2.2.2⟩, ht⟩
 ·exact h
end
def posN (n : Nat) : List Nat → Nat → Option Nat
 | [], _ => none
 | x :: l, i => bif Nat.beq n x then some i else posN n l (i + 1)
def cN (n : Nat) (s : List Nat) : Nat × List Nat := match posN n s 0 with
 | some i => (i, s)
 | none => (s.length, s ++ [n])
def cBase : Base → List Nat → Base × List Nat
 | .l n, s => match cN n s with
  | (i, s') => (.l i, s')
 | .g n, s => (.g n, s)
def cA : AV → List Nat → AV × List Nat
 | .c v, s => (.c v, s)
 | .ptr b i e o, s => match cBase b s with
  | (b', s') => (.ptr b' i e o, s')
 | .cp v i o, s => (.cp v i o, s)
 | .own b e n, s => match cN b s with
  | (b', s') => (.own b' e n, s')
 | .sub b e i n, s => match cN b s with
  | (b', s') => (.sub b' e i n, s')
 | .inn b i e o z n, s => match cBase b s with
  | (b', s') => (.inn b' i e o z n, s')
 | .pr a b, s => match cA a s with
  | (a', s1) => match cA b s1 with
   | (b', s2) => (.pr a' b', s2)
 | .t0, s => (.t0, s)
 | .t2 a b, s => match cA a s with
  | (a', s1) => match cA b s1 with
   | (b', s2) => (.t2 a' b', s2)
 | .t3 a b c, s => match cA a s with
  | (a', s1) => match cA b s1 with
   | (b', s2) => match cA c s2 with
    | (c', s3) => (.t3 a' b' c', s3)
 | .fn f caps, s => match cA caps s with
  | (c', s') => (.fn f c', s')
 | .hd k b, s => match cN b s with
  | (b', s') => (.hd k b', s')
def cAs : List AV → List Nat → List AV × List Nat
 | [], s => ([], s)
 | a :: l, s => match cA a s with
  | (a', s1) => match cAs l s1 with
   | (l', s2) => (a' :: l', s2)
def cB : Blk' → List Nat → Blk' × List Nat
 | .cells ty e (.els l), s => match cAs l s with
  | (l', s') => (.cells ty e (.els l'), s')
 | .opt a ty e (.els l), s => match cAs l s with
  | (l', s') => (.opt a ty e (.els l'), s')
 | b, s => (b, s)
def cH (h : Heap) : Nat → Nat → List Nat → Option (List Blk' × List Nat)
 | 0, i, s => bif Nat.beq i s.length then some ([], s) else none
 | f + 1, i, s => match s[i]? with
  | none => bif Nat.beq i s.length then some ([], s) else none
  | some n => match getK h n with
   | none => none
   | some blk => match cB (nB blk) s with
    | (b', s1) => match cH h f (i + 1) s1 with
     | some (l, s2) => some (b' :: l, s2)
     | none => none
def cE (h : Heap) : Nat → Nat → List Nat → List (Option Blk') × List Nat
 | 0, _, s => ([], s)
 | f + 1, i, s => match getK h i with
  | none => match cE h f (i + 1) s with
   | (l, s') => (none :: l, s')
  | some blk => match cB (nB blk) s with
   | (b', s1) => match cE h f (i + 1) s1 with
    | (l, s2) => (some b' :: l, s2)
def Base.bnd (m : Nat) : Base → Prop
 | .l n => n < m
 | .g _ => True
def AV.bnd (m : Nat) : AV → Prop
 | .c _ => True
 | .ptr b _ _ _ => b.bnd m
 | .cp _ _ _ => True
 | .own b _ _ => b < m
 | .sub b _ _ _ => b < m
 | .inn b _ _ _ _ _ => b.bnd m
 | .pr a b => a.bnd m ∧ b.bnd m
 | .t0 => True
 | .t2 a b => a.bnd m ∧ b.bnd m
 | .t3 a b e => a.bnd m ∧ b.bnd m ∧ e.bnd m
 | .fn _ caps => caps.bnd m
 | .hd _ b => b < m
def bndL (m : Nat) : List AV → Prop
 | [] => True
 | a :: l => a.bnd m ∧ bndL m l
def Body.bnd (m : Nat) : Body → Prop
 | .els l => bndL m l
 | _ => True
def Blk'.bnd (m : Nat) : Blk' → Prop
 | .cells _ _ b => b.bnd m
 | .map _ _ => True
 | .opt _ _ _ b => b.bnd m
section
variable {ι ι' : Nat → Option Loc} {N : Nat → Prop} {w : World} {m m' : Nat}
theorem locOf_bnd {b : Base} (hb : b.bnd m) (h : ∀ n L, n < m → ι n = some L → ι' n = some L) {L : Loc} (hl : locOf ι b = some L) : locOf ι' b = some L := by
 cases b with
 | l n => exact h n L hb hl
 | g n => exact hl
theorem AV.rel_bnd (h : ∀ n L, n < m → ι n = some L → ι' n = some L) : ∀ {a : AV} {cs : List Value}, a.bnd m → a.rel ι N w cs → a.rel ι' N w cs
 | .c _, _, _, hr => hr
 | .ptr _ _ _ _, _, hb, ⟨L, hl, hr⟩ => ⟨L, locOf_bnd hb h hl, hr⟩
 | .cp _ _ _, _, _, hr => hr
 | .own _ _ _, _, hb, ⟨L, hl, hr⟩ => ⟨L, h _ _ hb hl, hr⟩
 | .sub _ _ _ _, _, hb, ⟨L, hl, hr⟩ => ⟨L, h _ _ hb hl, hr⟩
 | .inn _ _ _ _ _ _, _, hb, ⟨L, A, cc, hl, hr⟩ => ⟨L, A, cc, locOf_bnd hb h hl, hr⟩
 | .pr a b, _, hb, ⟨c1, c2, e, h1, h2⟩ => ⟨c1, c2, e, AV.rel_bnd h (a := a) hb.1 h1, AV.rel_bnd h (a := b) hb.2 h2⟩
 | .t0, _, _, hr => hr
 | .t2 a b, _, hb, ⟨v1, v2, e, h1, h2⟩ => ⟨v1, v2, e, h1.mono fun _ hx => AV.rel_bnd h (a := a) hb.1 hx, h2.mono fun _ hx => AV.rel_bnd h (a := b) hb.2 hx⟩
 | .t3 a b e3, _, hb, ⟨v1, v2, v3, e, h1, h2, h3⟩ => ⟨v1, v2, v3, e, h1.mono fun _ hx => AV.rel_bnd h (a := a) hb.1 hx, h2.mono fun _ hx => AV.rel_bnd h (a := b) hb.2.1 hx, h3.mono fun _ hx => AV.rel_bnd h (a := e3) hb.2.2 hx⟩
 | .fn _ caps, _, hb, ⟨vs, e, hr⟩ => ⟨vs, e, AV.rel_bnd h (a := caps) hb hr⟩
 | .hd _ _, _, hb, ⟨L, hl, hr⟩ => ⟨L, h _ _ hb hl, hr⟩
theorem AV.val_bnd (h : ∀ n L, n < m → ι n = some L → ι' n = some L) {a : AV} {v : Value} (hb : a.bnd m) (hv : a.val ι N w v) : a.val ι' N w v :=
 asVal.mono (fun _ hx => AV.rel_bnd h hb hx) hv
theorem relL_bnd (h : ∀ n L, n < m → ι n = some L → ι' n = some L) {sz : Nat} : ∀ {l : List AV} {cs : List Value}, bndL m l → relList sz (fun a => a.rel ι N w) l cs → relList sz (fun a => a.rel ι' N w) l cs
 | [], _, _, hr => hr
 | _ :: _, _, hb, ⟨c1, c2, e, hs, h1, h2⟩ => ⟨c1, c2, e, hs, AV.rel_bnd h hb.1 h1, relL_bnd h hb.2 h2⟩
theorem Body.rel_bnd (h : ∀ n L, n < m → ι n = some L → ι' n = some L) {esz : Nat} : ∀ {b : Body} {cs : List Value}, b.bnd m → b.rel ι N w esz cs → b.rel ι' N w esz cs
 | .ints _ _, _, _, hr => hr
 | .rows _ _, _, _, hr => hr
 | .els _, _, hb, hr => relL_bnd h hb hr
theorem Blk'.rel_bnd (h : ∀ n L, n < m → ι n = some L → ι' n = some L) {L : Loc} : ∀ {b : Blk'}, b.bnd m → BlkRel ι N w L b → BlkRel ι' N w L b
 | .cells _ _ _, hb, .inl ⟨h1, h2, h3⟩ => .inl ⟨h1, Body.rel_bnd h hb h2, h3⟩
 | .cells _ _ _, hb, .inr ⟨hp, pre, xs, post, hl, ht⟩ => .inr ⟨hp, pre, xs, post, ⟨hl.1, hl.2.1, Body.rel_bnd h hb hl.2.2.1, hl.2.2.2⟩, ht⟩
 | .map _ _, _, hr => hr
 | .opt _ _ _ _, _, .inl hr => .inl hr
 | .opt _ _ _ _, hb, .inr ⟨ha, hp, pre, xs, post, hl, ht⟩ => .inr ⟨ha, hp, pre, xs, post, ⟨hl.1, hl.2.1, Body.rel_bnd h hb hl.2.2.1, hl.2.2.2⟩, ht⟩
theorem Base.bnd_mono (hm : m ≤ m') : ∀ {b : Base}, b.bnd m → b.bnd m'
 | .l _, h => Nat.lt_of_lt_of_le h hm
 | .g _, _ => trivial
theorem AV.bnd_mono (hm : m ≤ m') : ∀ {a : AV}, a.bnd m → a.bnd m'
 | .c _, _ => trivial
 | .ptr _ _ _ _, h => Base.bnd_mono hm h
 | .cp _ _ _, _ => trivial
 | .own _ _ _, h => Nat.lt_of_lt_of_le h hm
 | .sub _ _ _ _, h => Nat.lt_of_lt_of_le h hm
 | .inn _ _ _ _ _ _, h => Base.bnd_mono hm h
 | .pr a b, h => ⟨AV.bnd_mono hm (a := a) h.1, AV.bnd_mono hm (a := b) h.2⟩
 | .t0, _ => trivial
 | .t2 a b, h => ⟨AV.bnd_mono hm (a := a) h.1, AV.bnd_mono hm (a := b) h.2⟩
 | .t3 a b e, h => ⟨AV.bnd_mono hm (a := a) h.1, AV.bnd_mono hm (a := b) h.2.1, AV.bnd_mono hm (a := e) h.2.2⟩
 | .fn _ caps, h => AV.bnd_mono hm (a := caps) h
 | .hd _ _, h => Nat.lt_of_lt_of_le h hm
theorem bndL_mono (hm : m ≤ m') : ∀ {l : List AV}, bndL m l → bndL m' l
 | [], _ => trivial
 | _ :: _, h => ⟨AV.bnd_mono hm h.1, bndL_mono hm h.2⟩
theorem Blk'.bnd_mono (hm : m ≤ m') : ∀ {b : Blk'}, b.bnd m → b.bnd m'
 | .cells _ _ (.els _), h => bndL_mono hm h
 | .cells _ _ (.ints _ _), h => h
 | .cells _ _ (.rows _ _), h => h
 | .map _ _, h => h
 | .opt _ _ _ (.els _), h => bndL_mono hm h
 | .opt _ _ _ (.ints _ _), h => h
 | .opt _ _ _ (.rows _ _), h => h
end
def nth (s : List Nat) (i : Nat) : Nat := s.getD i 0
theorem posN_some {n : Nat} : ∀ {s : List Nat} {i j : Nat}, posN n s i = some j → i ≤ j ∧ s[j - i]? = some n
 | [], _, _, h => by cases h
 | x :: l, i, j, h => by
  unfold posN at h
  cases hb : Nat.beq n x with
  | true =>
   rw [hb] at h; injection h with h; subst h
   have := beqN hb; subst this
   simp
  | false =>
   rw [hb] at h
   obtain ⟨h1, h2⟩ := posN_some h
   refine ⟨by omega, ?_⟩
   rw [show j - i = (j - (i + 1)) + 1 by omega, List.getElem?_cons_succ]
   exact h2
theorem posN_none {n : Nat} : ∀ {s : List Nat} {i : Nat}, posN n s i = none → n ∉ s
 | [], _, _ => by simp
 | x :: l, i, h => by
  unfold posN at h
  cases hb : Nat.beq n x with
  | true => rw [hb] at h; cases h
  | false =>
   rw [hb] at h
   have := posN_none h
   simp only [List.mem_cons, not_or]
   refine ⟨?_, this⟩
   rintro rfl
   rw [Nat.beq_refl] at hb; cases hb
structure CanonStep (s s' : List Nat) : Prop where
 ext : ∃ t, s' = s ++ t
 nd : s.Nodup → s'.Nodup
theorem CanonStep.refl (s : List Nat) : CanonStep s s := ⟨⟨[], by simp⟩, id⟩
theorem CanonStep.trans {s s' s'' : List Nat} (h : CanonStep s s') (h' : CanonStep s' s'') : CanonStep s s'' := by
 obtain ⟨t, e⟩ := h.ext
 obtain ⟨t', e'⟩ := h'.ext
 exact ⟨⟨t ++ t', by rw [e', e, List.append_assoc]⟩, fun hn => h'.nd (h.nd hn)⟩
theorem CanonStep.le {s s' : List Nat} (h : CanonStep s s') : s.length ≤ s'.length := by
 obtain ⟨t, e⟩ := h.ext
 rw [e, List.length_append]; omega
theorem CanonStep.app {s s' : List Nat} (h : CanonStep s s') (t : List Nat) : ∃ t', s' ++ t = s ++ t' := by
 obtain ⟨t0, e⟩ := h.ext
 exact ⟨t0 ++ t, by rw [e, List.append_assoc]⟩
theorem nth_app {s t : List Nat} {i : Nat} (h : i < s.length) : nth (s ++ t) i = nth s i := by
 unfold nth
 rw [List.getD_eq_getElem?_getD, List.getD_eq_getElem?_getD, List.getElem?_append_left h]
theorem cN_ok {n i : Nat} {s s' : List Nat} (h : cN n s = (i, s')) : CanonStep s s' ∧ i < s'.length ∧ ∀ t, nth (s' ++ t) i = n := by
 unfold cN at h
 split at h
 ·rename_i j hj
  injection h with h1 h2; subst h1; subst h2
  obtain ⟨_, h⟩ := posN_some hj
  have hlt : j < s.length := by
   have := (List.getElem?_eq_some_iff.1 h).1
   omega
  refine ⟨.refl _, hlt, fun t => ?_⟩
  rw [nth_app hlt]
  unfold nth
  rw [List.getD_eq_getElem?_getD, show j = j - 0 by omega, h]; rfl
 ·rename_i hj
  injection h with h1 h2; subst h1; subst h2
  have hn := posN_none hj
  refine ⟨⟨⟨[n], rfl⟩, fun hd => ?_⟩, by simp, fun t => ?_⟩
  ·rw [List.nodup_append]
   refine ⟨hd, by simp, ?_⟩
   intro a ha b hb e
   simp at hb
   subst hb
   subst e
   exact hn ha
  ·unfold nth
   rw [List.getD_eq_getElem?_getD, List.append_assoc, List.getElem?_append_right (Nat.le_refl _)]
   simp
theorem cBase_ok {b b' : Base} {s s' : List Nat} (h : cBase b s = (b', s')) : CanonStep s s' ∧ b'.bnd s'.length ∧ ∀ t, b'.ren (nth (s' ++ t)) = b := by
 cases b with
 | l n =>
  unfold cBase at h
  cases hc : cN n s with
  | mk i s1 =>
   simp only [hc] at h
   injection h with h1 h2; subst h1; subst h2
   obtain ⟨g1, gb, g2⟩ := cN_ok hc
   exact ⟨g1, gb, fun t => by show Base.l (nth (s1 ++ t) i) = .l n; rw [g2 t]⟩
 | g n => injection h with h1 h2; subst h1; subst h2; exact ⟨.refl _, trivial, fun t => rfl⟩
theorem cA_ok : ∀ {a a' : AV} {s s' : List Nat}, cA a s = (a', s') → CanonStep s s' ∧ a'.bnd s'.length ∧ ∀ t, a'.ren (nth (s' ++ t)) = a
 | .c v, _, _, _, h => by injection h with h1 h2; subst h1; subst h2; exact ⟨.refl _, trivial, fun t => rfl⟩
 | .ptr b i e o, a', s, s', h => by
  unfold cA at h
  split at h
  rename_i b' s1 hc
  injection h with h1 h2; subst h1; subst h2
  obtain ⟨g1, gb, g2⟩ := cBase_ok hc
  exact ⟨g1, gb, fun t => by unfold AV.ren; rw [g2 t]⟩
 | .cp v i o, _, _, _, h => by injection h with h1 h2; subst h1; subst h2; exact ⟨.refl _, trivial, fun t => rfl⟩
 | .hd k b, a', s, s', h => by
  unfold cA at h
  split at h
  rename_i b' s1 hc
  injection h with h1 h2; subst h1; subst h2
  obtain ⟨g1, gb, g2⟩ := cN_ok hc
  exact ⟨g1, gb, fun t => by unfold AV.ren; rw [g2 t]⟩
 | .own b e n, a', s, s', h => by
  unfold cA at h
  split at h
  rename_i b' s1 hc
  injection h with h1 h2; subst h1; subst h2
  obtain ⟨g1, gb, g2⟩ := cN_ok hc
  exact ⟨g1, gb, fun t => by unfold AV.ren; rw [g2 t]⟩
 | .sub b e i n, a', s, s', h => by
  unfold cA at h
  split at h
  rename_i b' s1 hc
  injection h with h1 h2; subst h1; subst h2
  obtain ⟨g1, gb, g2⟩ := cN_ok hc
  exact ⟨g1, gb, fun t => by unfold AV.ren; rw [g2 t]⟩
 | .inn b i e o z n, a', s, s', h => by
  unfold cA at h
  split at h
  rename_i b' s1 hc
  injection h with h1 h2; subst h1; subst h2
  obtain ⟨g1, gb, g2⟩ := cBase_ok hc
  exact ⟨g1, gb, fun t => by unfold AV.ren; rw [g2 t]⟩
 | .pr a b, a', s, s', h => by
  unfold cA at h
  split at h
  rename_i x s1 hx
  split at h
  rename_i y s2 hy
  injection h with h1 h2; subst h1; subst h2
  obtain ⟨g1, gb, g2⟩ := cA_ok hx
  obtain ⟨k1, kb, k2⟩ := cA_ok hy
  refine ⟨g1.trans k1, ⟨AV.bnd_mono k1.le gb, kb⟩, fun t => ?_⟩
  obtain ⟨t', e⟩ := k1.app t
  unfold AV.ren
  rw [k2 t, e, g2 t']
 | .t0, _, _, _, h => by injection h with h1 h2; subst h1; subst h2; exact ⟨.refl _, trivial, fun t => rfl⟩
 | .t2 a b, a', s, s', h => by
  unfold cA at h
  split at h
  rename_i x s1 hx
  split at h
  rename_i y s2 hy
  injection h with h1 h2; subst h1; subst h2
  obtain ⟨g1, gb, g2⟩ := cA_ok hx
  obtain ⟨k1, kb, k2⟩ := cA_ok hy
  refine ⟨g1.trans k1, ⟨AV.bnd_mono k1.le gb, kb⟩, fun t => ?_⟩
  obtain ⟨t', e⟩ := k1.app t
  unfold AV.ren
  rw [k2 t, e, g2 t']
 | .t3 a b c, a', s, s', h => by
  unfold cA at h
  split at h
  rename_i x s1 hx
  split at h
  rename_i y s2 hy
  split at h
  rename_i z s3 hz
  injection h with h1 h2; subst h1; subst h2
  obtain ⟨g1, gb, g2⟩ := cA_ok hx
  obtain ⟨k1, kb, k2⟩ := cA_ok hy
  obtain ⟨m1, mb, m2⟩ := cA_ok hz
  refine ⟨(g1.trans k1).trans m1, ⟨AV.bnd_mono (k1.trans m1).le gb, AV.bnd_mono m1.le kb, mb⟩, fun t => ?_⟩
  obtain ⟨t', e⟩ := m1.app t
  obtain ⟨t'', e'⟩ := k1.app t'
  unfold AV.ren
  rw [m2 t, e, k2 t', e', g2 t'']
 | .fn f caps, a', s, s', h => by
  unfold cA at h
  split at h
  rename_i x s1 hx
  injection h with h1 h2; subst h1; subst h2
  obtain ⟨g1, gb, g2⟩ := cA_ok hx
  exact ⟨g1, gb, fun t => by unfold AV.ren; rw [g2 t]⟩
theorem cAs_ok : ∀ {l l' : List AV} {s s' : List Nat}, cAs l s = (l', s') → CanonStep s s' ∧ l'.length = l.length ∧ bndL s'.length l' ∧ ∀ t, renL (nth (s' ++ t)) l' = l
 | [], _, _, _, h => by injection h with h1 h2; subst h1; subst h2; exact ⟨.refl _, rfl, trivial, fun t => rfl⟩
 | a :: l, l', s, s', h => by
  unfold cAs at h
  split at h
  rename_i x s1 hx
  split at h
  rename_i y s2 hy
  injection h with h1 h2; subst h1; subst h2
  obtain ⟨g1, gb, g2⟩ := cA_ok hx
  obtain ⟨k1, kl, kb, k2⟩ := cAs_ok hy
  refine ⟨g1.trans k1, by simp [kl], ⟨AV.bnd_mono k1.le gb, kb⟩, fun t => ?_⟩
  obtain ⟨t', e⟩ := k1.app t
  unfold renL
  rw [k2 t, e, g2 t']
theorem cB_ok {b b' : Blk'} {s s' : List Nat} (h : cB b s = (b', s')) : CanonStep s s' ∧ b'.bnd s'.length ∧ ∀ t, b'.ren (nth (s' ++ t)) = b := by
 unfold cB at h
 split at h
 ·split at h
  rename_i y s2 hy
  injection h with h1 h2; subst h1; subst h2
  obtain ⟨k1, _, kb, k2⟩ := cAs_ok hy
  exact ⟨k1, kb, fun t => by unfold Blk'.ren Body.ren; simp only [k2 t]⟩
 ·split at h
  rename_i y s2 hy
  injection h with h1 h2; subst h1; subst h2
  obtain ⟨k1, _, kb, k2⟩ := cAs_ok hy
  exact ⟨k1, kb, fun t => by unfold Blk'.ren Body.ren; simp only [k2 t]⟩
 ·rename_i hne hno
  injection h with h1 h2; subst h1; subst h2
  cases b with
  | map m => exact ⟨.refl _, trivial, fun t => rfl⟩
  | cells ty e body =>
   cases body with
   | ints k l => exact ⟨.refl _, trivial, fun t => rfl⟩
   | rows t xs => exact ⟨.refl _, trivial, fun t => rfl⟩
   | els l => exact absurd rfl (hne ty e l)
  | opt a ty e body =>
   cases body with
   | ints k l => exact ⟨.refl _, trivial, fun t => rfl⟩
   | rows t xs => exact ⟨.refl _, trivial, fun t => rfl⟩
   | els l => exact absurd rfl (hno a ty e l)
theorem cH_ok {h : Heap} : ∀ {f i : Nat} {s s' : List Nat} {l : List Blk'}, cH h f i s = some (l, s') → i ≤ s.length →
  CanonStep s s' ∧ i + l.length = s'.length ∧ ∀ j b, l[j]? = some b → b.bnd s'.length ∧ ∃ blk, getK h (nth s' (i + j)) = some blk ∧ ∀ t, b.ren (nth (s' ++ t)) = nB blk
 | 0, i, s, s', l, e, hi => by
  unfold cH at e
  cases hb : Nat.beq i s.length with
  | false => rw [hb] at e; cases e
  | true =>
   rw [hb] at e; injection e with e; injection e with e1 e2; subst e1; subst e2
   have := beqN hb
   exact ⟨.refl _, by simpa using this, fun j b hj => by simp at hj⟩
 | f + 1, i, s, s', l, e, hi => by
  unfold cH at e
  split at e
  ·cases hb : Nat.beq i s.length with
   | false => rw [hb] at e; cases e
   | true =>
    rw [hb] at e; injection e with e; injection e with e1 e2; subst e1; subst e2
    have := beqN hb
    exact ⟨.refl _, by simpa using this, fun j b hj => by simp at hj⟩
  ·rename_i n hn
   have hlt := (List.getElem?_eq_some_iff.1 hn).1
   split at e
   ·cases e
   ·rename_i blk hblk
    split at e
    rename_i b' s1 hb
    split at e
    ·rename_i l2 s2 hrec
     injection e with e; injection e with e1 e2; subst e1; subst e2
     obtain ⟨g1, gb, g2⟩ := cB_ok hb
     obtain ⟨t0, e0⟩ := g1.ext
     obtain ⟨k1, k2, k3⟩ := cH_ok hrec (by rw [e0, List.length_append]; omega)
     refine ⟨g1.trans k1, by simp; omega, ?_⟩
     intro j b hj
     cases j with
     | zero =>
      simp at hj; subst hj
      refine ⟨Blk'.bnd_mono k1.le gb, blk, ?_, fun t => ?_⟩
      ·obtain ⟨t', e'⟩ := (g1.trans k1).ext
       have : nth s2 (i + 0) = n := by
        rw [e', Nat.add_zero, nth_app hlt]
        unfold nth
        rw [List.getD_eq_getElem?_getD, hn]; rfl
       rw [this, hblk]
      ·obtain ⟨t'', e''⟩ := k1.app t
       rw [e'', g2 t'']
     | succ j =>
      have := k3 j b (by simpa using hj)
      rw [show i + 1 + j = i + (j + 1) by omega] at this
      exact this
    ·cases e
theorem cE_ok {h : Heap} : ∀ {f i : Nat} {s s' : List Nat} {l : List (Option Blk')}, cE h f i s = (l, s') →
  CanonStep s s' ∧ l.length = f ∧ (∀ j b, l[j]? = some (some b) → b.bnd s'.length ∧ ∃ blk, getK h (i + j) = some blk ∧ ∀ t, b.ren (nth (s' ++ t)) = nB blk) ∧ ∀ j, j < f → getK h (i + j) = none → l[j]? = some none
 | 0, i, s, s', l, e => by
  injection e with e1 e2; subst e1; subst e2
  exact ⟨.refl _, rfl, fun j b hj => by simp at hj, fun j hj => by omega⟩
 | f + 1, i, s, s', l, e => by
  unfold cE at e
  split at e
  ·rename_i hn
   split at e
   rename_i l2 s2 hrec
   injection e with e1 e2; subst e1; subst e2
   obtain ⟨k1, k2, k3, k4⟩ := cE_ok hrec
   refine ⟨k1, by simp [k2], fun j b hj => ?_, fun j hj hg => ?_⟩
   ·cases j with
    | zero => simp at hj
    | succ j =>
     have := k3 j b (by simpa using hj)
     rw [show i + 1 + j = i + (j + 1) by omega] at this
     exact this
   ·cases j with
    | zero => rfl
    | succ j =>
     have := k4 j (by omega) (by rw [show i + 1 + j = i + (j + 1) by omega]; exact hg)
     simpa using this
  ·rename_i blk hblk
   split at e
   rename_i b' s1 hb
   split at e
   rename_i l2 s2 hrec
   injection e with e1 e2; subst e1; subst e2
   obtain ⟨g1, gb, g2⟩ := cB_ok hb
   obtain ⟨k1, k2, k3, k4⟩ := cE_ok hrec
   refine ⟨g1.trans k1, by simp [k2], fun j b hj => ?_, fun j hj hg => ?_⟩
   ·cases j with
    | zero =>
     simp at hj; subst hj
     refine ⟨Blk'.bnd_mono k1.le gb, blk, hblk, fun t => ?_⟩
     obtain ⟨t', e'⟩ := k1.app t
     rw [e', g2 t']
    | succ j =>
     have := k3 j b (by simpa using hj)
     rw [show i + 1 + j = i + (j + 1) by omega] at this
     exact this
   ·cases j with
    | zero => rw [Nat.add_zero, hblk] at hg; cases hg
    | succ j =>
     have := k4 j (by omega) (by rw [show i + 1 + j = i + (j + 1) by omega]; exact hg)
     simpa using this
end Go.Ab
/- Functions: what a call gives, from a walk through the body. -/
namespace Go.Ab
open Go Go.Chr Go.RowKit
structure Out : Type 1 where
 val : AV
 outs : List (Option Blk') := []
 news : List Blk' := []
abbrev FSpec := List AV → List Blk' → Option (Option Prop × Out)
def Asked : Option Prop → Prop
 | none => True
 | some p => p
def asking : Option Prop → Prop → Prop
 | none, k => k
 | some p, k => p ∧ k
def CV.solid : CV → Bool
 | .pr a b => a.solid && b.solid
 | .ints _ _ => false
 | .rows _ _ _ => false
 | _ => true
def AV.solid : AV → Bool
 | .c v => v.solid
 | .cp _ _ _ => false
 | .pr a b => a.solid && b.solid
 | .t2 a b => a.solid && b.solid
 | .t3 a b e => a.solid && (b.solid && e.solid)
 | .fn _ caps => caps.solid
 | _ => true
def solidL : List AV → Bool
 | [] => true
 | a :: l => a.solid && solidL l
def Tag.solid : Tag → Bool
 | .pr a b => a.solid && b.solid
 | .ints _ => false
 | .rows _ _ => false
 | _ => true
def Blk'.solid : Blk' → Bool
 | .cells _ _ (.ints _ _) => true
 | .cells _ _ (.rows t _) => t.solid
 | .cells _ _ (.els l) => solidL l
 | .opt _ _ _ (.ints _ _) => true
 | .opt _ _ _ (.rows t _) => t.solid
 | .opt _ _ _ (.els l) => solidL l
 | .map t _ => t.solid
def solidBs : List Blk' → Bool
 | [] => true
 | b :: l => b.solid && solidBs l
def solidOs : List (Option Blk') → Bool
 | [] => true
 | some b :: l => b.solid && solidOs l
 | none :: l => solidOs l
def closeL (h : Heap) : List Bool → List AV → Option (List AV × List (Nat × Blk'))
 | true :: ms, a :: as => match cloD 3 h a, closeL h ms as with
  | some (v, r1), some (as', r2) => some (.c v :: as', r1 ++ r2)
  | _, _ => none
 | false :: ms, a :: as => match closeL h ms as with
  | some (as', r2) => some (normV a :: as', r2)
  | none => none
 | [], [] => some ([], [])
 | _, _ => none
def rdsS (h : Heap) : List Nat → List (Nat × Blk')
 | [] => []
 | n :: s => match getK h n with
  | some b => (n, b) :: rdsS h s
  | none => rdsS h s
def tauR (s : List Nat) (nx i : Nat) : Nat := cond (Nat.blt i s.length) (nth s i) (nx + (i - s.length))
def zipU (τ : Nat → Nat) : List Nat → List (Option Blk') → List (Nat × Option Blk')
 | n :: s, o :: l => (n, match o with | some b => some (b.ren τ) | none => none) :: zipU τ s l
 | _, _ => []
def renBs (τ : Nat → Nat) : List Blk' → List Blk'
 | [] => []
 | b :: l => b.ren τ :: renBs τ l
def outR (h : Heap) (s : List Nat) (nx : Nat) (rdc : List (Nat × Blk')) (o : Out) : OpR :=
 ⟨o.val.ren (tauR s nx), zipU (tauR s nx) s o.outs, renBs (tauR s nx) o.news, rdsS h s ++ rdc⟩
def apartL (s : List Nat) : List (Nat × Blk') → Bool
 | [] => true
 | (n, _) :: l => !hasN n s && apartL s l
def nilL {α : Type 1} : List α → Bool
 | [] => true
 | _ => false
def okOut (s : List Nat) (rdc : List (Nat × Blk')) (o : Out) : Bool :=
 apartL s rdc && (nilL rdc || (o.val.solid && (solidOs o.outs && solidBs o.news)))
def lift (modes : List Bool) (F : FSpec) : Contract := fun as h nx k => match closeL h modes as with
 | none => False
 | some (as1, rdc) => match cAs as1 [] with
  | (as2, s1) => match cH h 99 0 s1 with
   | none => False
   | some (bl, s) => match F as2 bl with
    | none => False
    | some (p, o) => cond (okOut s rdc o) (asking p (k (outR h s nx rdc o))) False
def slotsL : Nat → List AV → List (Nat × AV)
 | _, [] => []
 | i, a :: l => (i, a) :: slotsL (i + 1) l
def heapL : Nat → List Blk' → Heap
 | _, [] => []
 | i, b :: l => (i, b) :: heapL (i + 1) l
def entry (fn : Func) (as : List AV) (bl : List Blk') : St := ⟨slotsL 0 as, heapL 0 bl, bl.length, fn.ntmps⟩
def fin (C : Ctx) (st : St) : List ResultVar → (List AV → Prop) → Prop
 | [], k => k []
 | .tmp t :: l, k => match getK st.sl t with
  | some v => fin C st l fun vs => k (v :: vs)
  | none => False
 | .cell a t :: l, k => match getK st.sl a with
  | some p => aLoad C st.h t p fun r => fin C st l fun vs => k (r.val :: vs)
  | none => False
def tupA : List AV → Option AV
 | [] => some .t0
 | [a] => some a
 | [a, b] => some (.t2 a b)
 | [a, b, e] => some (.t3 a b e)
 | _ => none
def upto : Nat → Nat → List Nat
 | 0, _ => []
 | n + 1, i => i :: upto n (i + 1)
def outK (m : Nat) (h : Heap) (v : AV) : Option Out := match cA (normV v) (upto m 0) with
 | (v', s1) => match cE h m 0 s1 with
  | (outs, s2) => match cH h 99 m s2 with
   | some (news, _) => some ⟨v', outs, news⟩
   | none => none
def finK (C : Ctx) (fn : Func) (m : Nat) (o : Out) (st : St) : Prop := fin C st fn.results.toList fun vs => match tupA vs with
 | some v => outK m st.h v = some o
 | none => False
def exitK (C : Ctx) (fn : Func) (m : Nat) (o : Out) : Exit → St → Prop
 | .normal, st => finK C fn m o st
 | .ret, st => finK C fn m o st
 | _, _ => False
structure FnOk (C : Ctx) (f : FuncId) (F : FSpec) : Prop where
 ok : ∃ fn c, C.P.funcs[f]? = some fn ∧ fn.body = some c ∧ (fn.name == "runtime.NumGoroutine") = false ∧
  ∀ as bl p o, F as bl = some (p, o) → Asked p → as.length ≤ fn.ntmps ∧ ∀ X : Snap, X.ds = [] → (∀ b L, X.ι b = some L → b < bl.length) → Walks C X c (entry fn as bl) (exitK C fn bl.length o)
section
variable {C : Ctx} {ι ι' : Nat → Option Loc} {N N' : Nat → Prop} {w w' : World}
theorem CV.rel_solid : ∀ {v : CV} {cs : List Value}, v.solid = true → v.rel N w cs → v.rel N' w' cs
 | .int _ _, _, _, h => h
 | .bool _, _, _, h => h
 | .str _, _, _, h => h
 | .raw _, _, _, h => h
 | .nat _ _, _, _, h => h
 | .arr _ _ _, _, _, h => h
 | .nl, _, _, h => h
 | .pr a b, _, hs, ⟨c1, c2, e, h1, h2⟩ => by
  unfold CV.solid at hs
  simp only [Bool.and_eq_true] at hs
  exact ⟨c1, c2, e, CV.rel_solid (v := a) hs.1 h1, CV.rel_solid (v := b) hs.2 h2⟩
 | .ints _ _, _, hs, _ => by cases hs
 | .rows _ _ _, _, hs, _ => by cases hs
theorem Tag.rel_solid : ∀ {t : Tag} {a : El t} {cs : List Value}, t.solid = true → t.rel N w a cs → t.rel N' w' a cs
 | .int _, _, _, _, h => h
 | .bool, _, _, _, h => h
 | .str, _, _, _, h => h
 | .nat _, _, _, _, h => h
 | .arr _ _, _, _, _, h => h
 | .nl, _, _, _, h => h
 | .pr a b, _, _, hs, ⟨c1, c2, e, h1, h2⟩ => by
  unfold Tag.solid at hs
  simp only [Bool.and_eq_true] at hs
  exact ⟨c1, c2, e, Tag.rel_solid hs.1 h1, Tag.rel_solid hs.2 h2⟩
 | .ints _, _, _, hs, _ => by cases hs
 | .rows _ _, _, _, hs, _ => by cases hs
theorem AV.rel_solid : ∀ {a : AV} {cs : List Value}, a.solid = true → a.rel ι N w cs → a.rel ι N' w' cs
 | .c v, _, hs, h => CV.rel_solid (v := v) hs h
 | .ptr _ _ _ _, _, _, h => h
 | .cp _ _ _, _, hs, _ => by cases hs
 | .own _ _ _, _, _, h => h
 | .sub _ _ _ _, _, _, h => h
 | .inn _ _ _ _ _ _, _, _, h => h
 | .pr a b, _, hs, ⟨c1, c2, e, h1, h2⟩ => by
  unfold AV.solid at hs
  simp only [Bool.and_eq_true] at hs
  exact ⟨c1, c2, e, AV.rel_solid (a := a) hs.1 h1, AV.rel_solid (a := b) hs.2 h2⟩
 | .t0, _, _, h => h
 | .t2 a b, _, hs, ⟨v1, v2, e, h1, h2⟩ => by
  unfold AV.solid at hs
  simp only [Bool.and_eq_true] at hs
  exact ⟨v1, v2, e, h1.mono fun _ hx => AV.rel_solid (a := a) hs.1 hx, h2.mono fun _ hx => AV.rel_solid (a := b) hs.2 hx⟩
 | .t3 a b e3, _, hs, ⟨v1, v2, v3, e, h1, h2, h3⟩ => by
  unfold AV.solid at hs
  simp only [Bool.and_eq_true] at hs
  exact ⟨v1, v2, v3, e, h1.mono fun _ hx => AV.rel_solid (a := a) hs.1 hx, h2.mono fun _ hx => AV.rel_solid (a := b) hs.2.1 hx, h3.mono fun _ hx => AV.rel_solid (a := e3) hs.2.2 hx⟩
 | .fn _ caps, _, hs, ⟨vs, e, h⟩ => ⟨vs, e, AV.rel_solid (a := caps) hs h⟩
 | .hd _ _, _, _, h => h
theorem relL_solid {sz : Nat} : ∀ {l : List AV} {cs : List Value}, solidL l = true → relList sz (fun a => a.rel ι N w) l cs → relList sz (fun a => a.rel ι N' w') l cs
 | [], _, _, h => h
 | a :: l, _, hs, ⟨c1, c2, e, hz, h1, h2⟩ => by
  unfold solidL at hs
  simp only [Bool.and_eq_true] at hs
  exact ⟨c1, c2, e, hz, AV.rel_solid hs.1 h1, relL_solid hs.2 h2⟩
theorem mapRel_solid {t : Tag} (hs : t.solid = true) : ∀ {m : List (Int × El t)} {es : List MapEntry}, mapRel N w t m es → mapRel N' w' t m es
 | [], _, h => h
 | _ :: _, _, ⟨e, es', h1, h2, h3, h4⟩ => ⟨e, es', h1, h2, h3.mono fun _ hx => (toCV_rel _ _ _).2 (Tag.rel_solid hs ((toCV_rel _ _ _).1 hx)), mapRel_solid hs h4⟩
theorem Blk'.rel_solid {L : Loc} : ∀ {b : Blk'}, b.solid = true → BlkRel ι N w L b → BlkRel ι N' w L b
 | .cells _ _ (.ints _ _), _, h => h
 | .cells _ _ (.els l), hs, h => by
  have hs : solidL l = true := hs
  rcases h with ⟨h1, h2, h3⟩ | ⟨hp, pre, xs, post, hl, ht⟩
  ·exact .inl ⟨h1, relL_solid hs h2, h3⟩
  ·exact .inr ⟨hp, pre, xs, post, ⟨hl.1, hl.2.1, relL_solid hs hl.2.2.1, hl.2.2.2⟩, ht⟩
 | .cells _ _ (.rows t xs), hs, h => by
  have hs : t.solid = true := hs
  rcases h with ⟨h1, h2, h3⟩ | ⟨hp, pre, ys, post, hl, ht⟩
  ·exact .inl ⟨h1, relList_mono (fun _ _ h => Tag.rel_solid hs h) h2, h3⟩
  ·exact .inr ⟨hp, pre, ys, post, ⟨hl.1, hl.2.1, relList_mono (fun _ _ h => Tag.rel_solid hs h) hl.2.2.1, hl.2.2.2⟩, ht⟩
 | .map t m, hs, h => by
  obtain ⟨hp, es, clock, h1, h2, h3⟩ := h
  exact ⟨hp, es, clock, h1, mapRel_solid hs h2, h3⟩
 | .opt _ _ _ (.ints _ _), _, h => h
 | .opt _ _ _ (.els l), hs, h => by
  have hs : solidL l = true := hs
  rcases h with h | ⟨ha, hp, pre, xs, post, hl, ht⟩
  ·exact .inl h
  ·exact .inr ⟨ha, hp, pre, xs, post, ⟨hl.1, hl.2.1, relL_solid hs hl.2.2.1, hl.2.2.2⟩, ht⟩
 | .opt _ _ _ (.rows t xs), hs, h => by
  have hs : t.solid = true := hs
  rcases h with h | ⟨ha, hp, pre, ys, post, hl, ht⟩
  ·exact .inl h
  ·exact .inr ⟨ha, hp, pre, ys, post, ⟨hl.1, hl.2.1, relList_mono (fun _ _ h => Tag.rel_solid hs h) hl.2.2.1, hl.2.2.2⟩, ht⟩
theorem solidBs_at : ∀ {l : List Blk'} {j : Nat} {b : Blk'}, solidBs l = true → l[j]? = some b → b.solid = true
 | [], _, _, _, h => by simp at h
 | x :: l, j, b, hs, h => by
  unfold solidBs at hs
  simp only [Bool.and_eq_true] at hs
  cases j with
  | zero => simp at h; subst h; exact hs.1
  | succ j => exact solidBs_at hs.2 (by simpa using h)
theorem solidOs_at : ∀ {l : List (Option Blk')} {j : Nat} {b : Blk'}, solidOs l = true → l[j]? = some (some b) → b.solid = true
 | [], _, _, _, h => by simp at h
 | some x :: l, j, b, hs, h => by
  unfold solidOs at hs
  simp only [Bool.and_eq_true] at hs
  cases j with
  | zero => simp at h; subst h; exact hs.1
  | succ j => exact solidOs_at hs.2 (by simpa using h)
 | none :: l, j, b, hs, h => by
  unfold solidOs at hs
  cases j with
  | zero => simp at h
  | succ j => exact solidOs_at hs (by simpa using h)
theorem clo_rds {h : Heap} : ∀ {a : AV} {v : CV} {rds : List (Nat × Blk')}, clo h a = some (v, rds) → ∀ p ∈ rds, getK h p.1 = some p.2
 | .c u, v, rds, e, p, hp => by
  injection e with e; injection e with e1 e2; subst e2
  simp at hp
 | .pr a b, v, rds, e, p, hp => by
  unfold clo at e
  split at e
  ·rename_i x r1 y r2 ha hb
   injection e with e; injection e with e1 e2; subst e2
   rcases List.mem_append.1 hp with hp | hp
   ·exact clo_rds ha p hp
   ·exact clo_rds hb p hp
  ·cases e
 | .own b esz n, v, rds, e, p, hp => by
  unfold clo at e
  split at e
  ·rename_i ty esz' body hb
   cases hc : Nat.beq esz esz' && Nat.ble 1 esz with
   | false => rw [hc] at e; cases e
   | true =>
    rw [hc] at e
    simp only [cond_true, Option.map_eq_some_iff] at e
    obtain ⟨v', hv, e⟩ := e
    injection e with e1 e2; subst e2
    simp at hp; rw [hp]; exact hb
  ·cases e
 | .sub b esz i n, v, rds, e, p, hp => by
  unfold clo at e
  split at e
  ·rename_i ty esz' body hb
   cases hc : Nat.beq esz esz' && Nat.ble 1 esz with
   | false => rw [hc] at e; cases e
   | true =>
    rw [hc] at e
    simp only [cond_true, Option.map_eq_some_iff] at e
    obtain ⟨v', hv, e⟩ := e
    injection e with e1 e2; subst e2
    simp at hp; rw [hp]; exact hb
  ·cases e
 | .inn (.l b) i esz off sz n, v, rds, e, p, hp => by
  unfold clo at e
  cases hc : Nat.beq sz 1 with
  | false => rw [hc] at e; cases e
  | true =>
   rw [hc] at e
   simp only [cond_true] at e
   unfold cloI at e
   split at e
   ·rename_i ty esz' body hb
    cases hc2 : Nat.beq esz esz' with
    | false => rw [hc2] at e; cases e
    | true =>
     rw [hc2] at e
     simp only [cond_true] at e
     split at e
     ·injection e with e; injection e with e1 e2; subst e2
      simp at hp; rw [hp]; exact hb
     ·cases e
   ·cases e
 | .inn (.g _) _ _ _ _ _, _, _, e, _, _ => by cases e
 | .ptr _ _ _ _, _, _, e, _, _ => by cases e
 | .cp _ _ _, _, _, e, _, _ => by cases e
 | .t0, _, _, e, _, _ => by cases e
 | .t2 _ _, _, _, e, _, _ => by cases e
 | .t3 _ _ _, _, _, e, _, _ => by cases e
 | .fn _ _, _, _, e, _, _ => by cases e
 | .hd _ _, _, _, e, _, _ => by cases e
theorem BlkRel.len' {ι : Nat → Option Loc} {N : Nat → Prop} {w : World} {L : Loc} {ty : TypeId} {e : Nat} {body : Body} (h : BlkRel ι N w L (.cells ty e body)) : body.len = L.len := by
 rcases h with ⟨_, _, h1, h2⟩ | ⟨_, _, _, _, h, _⟩
 ·rw [h1, h2]
 ·exact h.2.2.2
def CloOk (h : Heap) (p : AV → Option (CV × List (Nat × Blk'))) : Prop := ∀ a v rds, p a = some (v, rds) → (∀ q ∈ rds, getK h q.1 = some q.2) ∧
 ∀ (ι : Nat → Option Loc) (N M : Nat → Prop) (w : World) (cs : List Value), (∀ k, N k → M k) → a.rel ι N w cs → (∀ q ∈ rds, ∃ L, ι q.1 = some L ∧ BlkRel ι N w L q.2 ∧ (L.ph = false → M L.blk)) → v.rel M w cs ∧ v.isAgg = a.isAgg
theorem clo_ok (h : Heap) : CloOk h (clo h) := fun a v rds e => ⟨clo_rds e, fun ι N M w cs hN hr hp => by
 obtain ⟨g1, g2, _⟩ := clo_rel hN e hr hp
 exact ⟨g1, g2⟩⟩
theorem cloLp_ok {h : Heap} {p : AV → Option (CV × List (Nat × Blk'))} (hp : CloOk h p) : ∀ {l : List AV} {cs : List CV} {rds : List (Nat × Blk')}, cloLp p l = some (cs, rds) → cs.length = l.length ∧ (∀ q ∈ rds, getK h q.1 = some q.2) ∧
  ∀ (ι : Nat → Option Loc) (N M : Nat → Prop) (w : World) (sz : Nat) (cells : List Value), (∀ k, N k → M k) → relList sz (fun a => a.rel ι N w) l cells → (∀ q ∈ rds, ∃ L, ι q.1 = some L ∧ BlkRel ι N w L q.2 ∧ (L.ph = false → M L.blk)) → relList sz (fun c => c.rel M w) cs cells
 | [], cs, rds, e => by
  injection e with e; injection e with e1 e2; subst e1; subst e2
  exact ⟨rfl, fun q hq => (by cases hq), fun ι N M w sz cells _ hr _ => hr⟩
 | a :: l, cs, rds, e => by
  unfold cloLp at e
  split at e
  ·rename_i x r1 y r2 ha hl
   injection e with e; injection e with e1 e2; subst e1; subst e2
   obtain ⟨g1, g2⟩ := hp a x r1 ha
   obtain ⟨k0, k1, k2⟩ := cloLp_ok hp hl
   refine ⟨by simp [k0], fun q hq => ?_, fun ι N M w sz cells hN hr hq => ?_⟩
   ·rcases List.mem_append.1 hq with hq | hq
    ·exact g1 q hq
    ·exact k1 q hq
   ·obtain ⟨c1, c2, e, h1, h2, h3⟩ := hr
    exact ⟨c1, c2, e, h1, (g2 ι N M w c1 hN h2 fun q h => hq q (List.mem_append.2 (.inl h))).1, k2 ι N M w sz c2 hN h3 fun q h => hq q (List.mem_append.2 (.inr h))⟩
  ·cases e
theorem cloEls_ok {h : Heap} {p : AV → Option (CV × List (Nat × Blk'))} (hp : CloOk h p) {b esz i n : Nat} {l : List AV} {ty : TypeId} (he : 1 ≤ esz) (hb : getK h b = some (.cells ty esz (.els l))) {v : CV} {rds : List (Nat × Blk')} (e : cloEls p b esz ((l.drop i).take n) (.cells ty esz (.els l)) = some (v, rds)) :
  (∀ q ∈ rds, getK h q.1 = some q.2) ∧ ∀ (ι : Nat → Option Loc) (N M : Nat → Prop) (w : World) (cs : List Value), (∀ k, N k → M k) → (AV.sub b esz i n).rel ι N w cs → (∀ q ∈ rds, ∃ L, ι q.1 = some L ∧ BlkRel ι N w L q.2 ∧ (L.ph = false → M L.blk)) → v.rel M w cs ∧ v.isAgg = false := by
 unfold cloEls at e
 split at e
 ·rename_i cs' r hl
  split at e
  ·rename_i u hu
   injection e with e; injection e with e1 e2; subst e1; subst e2
   obtain ⟨k0, k1, k2⟩ := cloLp_ok hp hl
   refine ⟨fun q hq => ?_, fun ι N M w cs hN hr hq => ⟨?_, listRows_isAgg hu⟩⟩
   ·rcases List.mem_cons.1 hq with rfl | hq
    ·exact hb
    ·exact k1 q hq
   ·obtain ⟨L, hL, hbr, hM⟩ := hq (b, .cells ty esz (.els l)) (by simp)
    have hq' : ∀ q ∈ r, ∃ L, ι q.1 = some L ∧ BlkRel ι N w L q.2 ∧ (L.ph = false → M L.blk) := fun q h => hq q (List.mem_cons_of_mem _ h)
    obtain ⟨L', hL', hin, hcase⟩ := hr
    rw [hL] at hL'; injection hL' with hL'; subst hL'
    have hlen := BlkRel.len' hbr
    have hne : cs' ≠ [] := by rintro rfl; cases hu
    have hn0 : 0 < ((l.drop i).take n).length := by
     rw [← k0]; exact List.length_pos_iff.2 hne
    have hnl : ((l.drop i).take n).length = n := by
     have : i + n ≤ l.length := by rw [show l.length = L.len from hlen]; exact hin
     rw [List.length_take, List.length_drop]; omega
    rcases hcase with ⟨_, h0, _⟩ | ⟨hph, A, c, rfl, hc, hAb, hAs, hAo⟩
    ·omega
    ·rcases hbr with ⟨hph', _⟩ | ⟨_, pre, xs, post, hlies, _⟩
     ·rw [hph] at hph'; cases hph'
     ·have hx := relList_take n (relList_drop i (l := l) hlies.2.2.1)
      have hrel := k2 ι N M w esz _ hN hx hq'
      refine listRows_rel hu (k0.trans hnl) hrel ?_
      exact slice_lies hlies (hM hph) hc (fun _ => by rw [eta_addr hAb hAs (hAo (by omega)).1]) hin
  ·cases e
 ·cases e
theorem own_sub {ι : Nat → Option Loc} {N : Nat → Prop} {w : World} {b esz n : Nat} {cs : List Value} (h : (AV.own b esz n).rel ι N w cs) : (AV.sub b esz 0 n).rel ι N w cs := by
 obtain ⟨L, h1, h2, h3⟩ := h
 refine ⟨L, h1, by omega, ?_⟩
 rcases h3 with ⟨p, h0, A, e⟩ | ⟨p, c, e, hc, ht⟩
 ·exact .inl ⟨p, h0, A, e⟩
 ·exact .inr ⟨p, _, c, e, hc, rfl, rfl, fun _ => ⟨by simp, ht⟩⟩
theorem clo1_ok {h : Heap} {p : AV → Option (CV × List (Nat × Blk'))} (hp : CloOk h p) : CloOk h (clo1 p h) := by
 intro a v rds e
 unfold clo1 at e
 split at e
 ·rename_i b esz n
  split at e
  ·rename_i ty e' l hb
   cases hc : Nat.beq esz e' && Nat.ble 1 esz with
   | false => rw [hc] at e; cases e
   | true =>
    rw [hc] at e
    simp only [Bool.and_eq_true] at hc
    have := beqN hc.1; subst this
    have he := bleN hc.2
    have e : cloEls p b esz l (.cells ty esz (.els l)) = some (v, rds) := e
    have e' : cloEls p b esz ((l.drop 0).take l.length) (.cells ty esz (.els l)) = some (v, rds) := by rw [List.drop_zero, List.take_length]; exact e
    obtain ⟨g1, g2⟩ := cloEls_ok hp he hb e'
    refine ⟨g1, fun ι N M w cs hN hr hq => ?_⟩
    have hb' : (b, Blk'.cells ty esz (.els l)) ∈ rds := by
     unfold cloEls at e
     split at e
     ·split at e
      ·injection e with e; injection e with e1 e2; rw [← e2]; simp
      ·cases e
     ·cases e
    obtain ⟨L, hL, hbr, _⟩ := hq _ hb'
    have hlen := BlkRel.len' hbr
    have hr' := own_sub hr
    obtain ⟨L', hL', hn, _⟩ := hr
    rw [hL] at hL'; injection hL' with hL'; subst hL'
    rw [show n = l.length by rw [← hn]; exact hlen.symm] at hr'
    exact g2 ι N M w cs hN hr' hq
  ·exact clo_ok h _ v rds e
 ·rename_i b esz i n
  split at e
  ·rename_i ty e' l hb
   cases hc : Nat.beq esz e' && Nat.ble 1 esz with
   | false => rw [hc] at e; cases e
   | true =>
    rw [hc] at e
    simp only [Bool.and_eq_true] at hc
    have := beqN hc.1; subst this
    have he := bleN hc.2
    exact cloEls_ok hp he hb e
  ·exact clo_ok h _ v rds e
 ·exact clo_ok h _ v rds e
theorem cloP_ok {h : Heap} {q : AV → Option (CV × List (Nat × Blk'))} (hq : CloOk h q) : CloOk h (cloP q) := by
 intro a
 induction a with
 | pr a b iha ihb =>
  intro v rds e
  unfold cloP at e
  split at e
  ·rename_i x r1 y r2 ha hb
   injection e with e; injection e with e1 e2; subst e1; subst e2
   obtain ⟨g1, g2⟩ := iha x r1 ha
   obtain ⟨k1, k2⟩ := ihb y r2 hb
   refine ⟨fun q hq => ?_, fun ι N M w cs hN hr hq => ?_⟩
   ·rcases List.mem_append.1 hq with hq | hq
    ·exact g1 q hq
    ·exact k1 q hq
   ·obtain ⟨c1, c2, ec, h1, h2⟩ := hr
    exact ⟨⟨c1, c2, ec, (g2 ι N M w c1 hN h1 fun q h => hq q (List.mem_append.2 (.inl h))).1, (k2 ι N M w c2 hN h2 fun q h => hq q (List.mem_append.2 (.inr h))).1⟩, rfl⟩
  ·cases e
 | _ => intro v rds e; exact hq _ v rds e
theorem cloD_ok (h : Heap) : ∀ d, CloOk h (cloD d h)
 | 0 => clo_ok h
 | d + 1 => cloP_ok (clo1_ok (cloD_ok h d))
theorem cloD_val {h : Heap} (hN : ∀ k, N k → N' k) {d : Nat} {a : AV} {v : CV} {rds : List (Nat × Blk')} {u : Value} (e : cloD d h a = some (v, rds)) (hv : a.val ι N w u)
  (hp : ∀ p ∈ rds, ∃ L, ι p.1 = some L ∧ BlkRel ι N w L p.2 ∧ (L.ph = false → N' L.blk)) : (AV.c v).val ι N' w u := by
 obtain ⟨_, g⟩ := cloD_ok h d a v rds e
 unfold AV.val asVal at hv
 cases ha : a.isAgg with
 | true =>
  rw [ha] at hv
  obtain ⟨x, ex, hx⟩ := hv
  obtain ⟨g1, g2⟩ := g ι N N' w x hN hx hp
  show asVal v.isAgg (fun x => v.rel N' w x) u
  rw [g2, ha]
  exact ⟨x, ex, g1⟩
 | false =>
  rw [ha] at hv
  obtain ⟨g1, g2⟩ := g ι N N' w [u] hN hv hp
  show asVal v.isAgg (fun x => v.rel N' w x) u
  rw [g2, ha]
  exact g1
theorem clo_val {h : Heap} (hN : ∀ k, N k → N' k) {a : AV} {v : CV} {rds : List (Nat × Blk')} {u : Value} (e : clo h a = some (v, rds)) (hv : a.val ι N w u)
  (hp : ∀ p ∈ rds, ∃ L, ι p.1 = some L ∧ BlkRel ι N w L p.2 ∧ (L.ph = false → N' L.blk)) : (AV.c v).val ι N' w u := by
 show asVal v.isAgg (fun x => v.rel N' w x) u
 unfold AV.val at hv
 cases ha : a.isAgg with
 | true =>
  rw [ha] at hv
  obtain ⟨x, ex, hx⟩ := hv
  obtain ⟨g1, g2, _⟩ := clo_rel hN e hx hp
  rw [g2, ha]
  exact ⟨x, ex, g1⟩
 | false =>
  rw [ha] at hv
  obtain ⟨g1, g2, _⟩ := clo_rel hN e hv hp
  rw [g2, ha]
  exact g1
theorem closeL_ok {h : Heap} : ∀ {ms : List Bool} {as as' : List AV} {rds : List (Nat × Blk')}, closeL h ms as = some (as', rds) → (∀ p ∈ rds, getK h p.1 = some p.2) ∧
  ∀ {N N' : Nat → Prop}, (∀ k, N k → N' k) → (∀ p ∈ rds, ∃ L, ι p.1 = some L ∧ BlkRel ι N w L p.2 ∧ (L.ph = false → N' L.blk)) → ∀ vs, valsRel ι N w as vs → valsRel ι N' w as' vs
 | true :: ms, a :: as, as', rds, e => by
  unfold closeL at e
  split at e
  ·rename_i v r1 as2 r2 ha hl
   injection e with e; injection e with e1 e2; subst e1; subst e2
   obtain ⟨g1, g2⟩ := closeL_ok hl
   refine ⟨fun p hp => ?_, fun {N N'} hN hp vs hv => ?_⟩
   ·rcases List.mem_append.1 hp with hp | hp
    ·exact (cloD_ok h 3 _ _ _ ha).1 p hp
    ·exact g1 p hp
   ·obtain ⟨u, us, e, h1, h2⟩ := hv
    exact ⟨u, us, e, cloD_val hN ha h1 fun p h => hp p (List.mem_append.2 (.inl h)), g2 hN (fun p h => hp p (List.mem_append.2 (.inr h))) us h2⟩
  ·cases e
 | false :: ms, a :: as, as', rds, e => by
  unfold closeL at e
  split at e
  ·rename_i as2 r2 hl
   injection e with e; injection e with e1 e2; subst e1; subst e2
   obtain ⟨g1, g2⟩ := closeL_ok hl
   refine ⟨g1, fun {N N'} hN hp vs hv => ?_⟩
   obtain ⟨u, us, e, h1, h2⟩ := hv
   exact ⟨u, us, e, normV_val (h1.mono (fun _ _ h => h) hN (fun _ _ => rfl)), g2 hN hp us h2⟩
  ·cases e
 | [], [], as', rds, e => by
  injection e with e; injection e with e1 e2; subst e1; subst e2
  exact ⟨fun p hp => by simp at hp, fun _ _ vs hv => hv⟩
 | [], _ :: _, _, _, e => by cases e
 | true :: _, [], _, _, e => by cases e
 | false :: _, [], _, _, e => by cases e
theorem rdsS_get {h : Heap} : ∀ {s : List Nat}, ∀ p ∈ rdsS h s, p.1 ∈ s ∧ getK h p.1 = some p.2
 | [], p, hp => by cases hp
 | n :: s, p, hp => by
  unfold rdsS at hp
  split at hp
  ·rename_i b hb
   rcases List.mem_cons.1 hp with hp | hp
   ·subst hp; exact ⟨by simp, hb⟩
   ·exact ⟨List.mem_cons_of_mem _ (rdsS_get p hp).1, (rdsS_get p hp).2⟩
  ·exact ⟨List.mem_cons_of_mem _ (rdsS_get p hp).1, (rdsS_get p hp).2⟩
theorem rdsS_mem {h : Heap} : ∀ {s : List Nat} {n : Nat} {b : Blk'}, n ∈ s → getK h n = some b → (n, b) ∈ rdsS h s
 | x :: s, n, b, hn, hb => by
  unfold rdsS
  rcases List.mem_cons.1 hn with rfl | hn
  ·rw [hb]; simp
  ·have := rdsS_mem hn hb
   split
   ·exact List.mem_cons_of_mem _ this
   ·exact this
theorem apartL_ok {s : List Nat} : ∀ {l : List (Nat × Blk')}, apartL s l = true → ∀ p ∈ l, p.1 ∉ s
 | [], _, p, hp => by cases hp
 | (n, b) :: l, h, p, hp => by
  unfold apartL at h
  simp only [Bool.and_eq_true, Bool.not_eq_true'] at h
  rcases List.mem_cons.1 hp with rfl | hp
  ·intro hm
   rw [hasN_iff.2 hm] at h
   cases h.1
  ·exact apartL_ok h.2 p hp
theorem zipU_get {τ : Nat → Nat} : ∀ {s : List Nat} {l : List (Option Blk')} {j : Nat} {o : Option Blk'}, s.length = l.length → l[j]? = some o → (nth s j, match o with | some b => some (b.ren τ) | none => none) ∈ zipU τ s l
 | [], _ :: _, _, _, e, _ => by simp at e
 | _, [], _, _, _, h => by simp at h
 | n :: s, x :: l, j, o, e, h => by
  unfold zipU
  cases j with
  | zero => simp at h; subst h; exact List.mem_cons_self ..
  | succ j =>
   have := zipU_get (τ := τ) (s := s) (l := l) (j := j) (o := o) (by simpa using e) (by simpa using h)
   refine List.mem_cons_of_mem _ ?_
   rwa [show nth (n :: s) (j + 1) = nth s j by unfold nth; simp]
theorem zipU_mem {τ : Nat → Nat} : ∀ {s : List Nat} {l : List (Option Blk')} {p : Nat × Option Blk'}, p ∈ zipU τ s l → ∃ (j : Nat) (o : Option Blk'), l[j]? = some o ∧ s[j]? = some p.1 ∧ p.2 = (match o with | some (b : Blk') => some (b.ren τ) | none => none)
 | [], _, _, h => by unfold zipU at h; cases h
 | _ :: _, [], _, h => by unfold zipU at h; cases h
 | n :: s, x :: l, p, h => by
  unfold zipU at h
  rcases List.mem_cons.1 h with h | h
  ·subst h; exact ⟨0, x, rfl, rfl, rfl⟩
  ·obtain ⟨j, o, h1, h2, h3⟩ := zipU_mem h
   exact ⟨j + 1, o, by simpa using h1, by simpa using h2, h3⟩
theorem zipU_keys {τ : Nat → Nat} : ∀ {s : List Nat} {l : List (Option Blk')}, s.Nodup → ((zipU τ s l).map (·.1)).Nodup ∧ ∀ n ∈ (zipU τ s l).map (·.1), n ∈ s
 | [], _, _ => by unfold zipU; simp
 | _ :: _, [], _ => by unfold zipU; simp
 | n :: s, x :: l, h => by
  rw [List.nodup_cons] at h
  obtain ⟨g1, g2⟩ := zipU_keys (τ := τ) (s := s) (l := l) h.2
  unfold zipU
  simp only [List.map_cons, List.nodup_cons]
  refine ⟨⟨fun hm => h.1 (g2 _ hm), g1⟩, fun m hm => ?_⟩
  rcases List.mem_cons.1 hm with rfl | hm
  ·simp
  ·exact List.mem_cons_of_mem _ (g2 _ hm)
theorem renBs_get {τ : Nat → Nat} : ∀ {l : List Blk'} {j : Nat} {b : Blk'}, (renBs τ l)[j]? = some b → ∃ b0, l[j]? = some b0 ∧ b = b0.ren τ
 | [], _, _, h => by unfold renBs at h; simp at h
 | x :: l, j, b, h => by
  unfold renBs at h
  cases j with
  | zero => simp at h; subst h; exact ⟨x, rfl, rfl⟩
  | succ j => exact renBs_get (l := l) (by simpa using h)
theorem renBs_len {τ : Nat → Nat} : ∀ l : List Blk', (renBs τ l).length = l.length
 | [] => rfl
 | _ :: l => by unfold renBs; simp [renBs_len l]
theorem slotsL_get : ∀ {as : List AV} {i t : Nat} {v : AV}, getK (slotsL i as) t = some v → i ≤ t ∧ as[t - i]? = some v
 | [], _, _, _, h => by cases h
 | a :: l, i, t, v, h => by
  unfold slotsL getK at h
  cases hb : Nat.beq t i with
  | true =>
   rw [hb] at h; injection h with h; subst h
   have := beqN hb; subst this; simp
  | false =>
   rw [hb] at h
   obtain ⟨h1, h2⟩ := slotsL_get h
   exact ⟨by omega, by rw [show t - i = (t - (i + 1)) + 1 by omega, List.getElem?_cons_succ]; exact h2⟩
theorem heapL_get : ∀ {bl : List Blk'} {i t : Nat} {v : Blk'}, getK (heapL i bl) t = some v → i ≤ t ∧ bl[t - i]? = some v
 | [], _, _, _, h => by cases h
 | a :: l, i, t, v, h => by
  unfold heapL getK at h
  cases hb : Nat.beq t i with
  | true =>
   rw [hb] at h; injection h with h; subst h
   have := beqN hb; subst this; simp
  | false =>
   rw [hb] at h
   obtain ⟨h1, h2⟩ := heapL_get h
   exact ⟨by omega, by rw [show t - i = (t - (i + 1)) + 1 by omega, List.getElem?_cons_succ]; exact h2⟩
theorem valsRel_at : ∀ {as : List AV} {vs : List Value} {i : Nat} {v : AV}, valsRel ι N w as vs → as[i]? = some v → ∃ u, vs[i]? = some u ∧ v.val ι N w u
 | [], _, _, _, _, h => by simp at h
 | a :: as, _, i, v, ⟨u, us, e, h1, h2⟩, h => by
  subst e
  cases i with
  | zero => simp at h; subst h; exact ⟨u, rfl, h1⟩
  | succ i =>
   obtain ⟨u', e', h'⟩ := valsRel_at (as := as) (i := i) h2 (by simpa using h)
   exact ⟨u', by simpa using e', h'⟩
theorem valsRel_len : ∀ {as : List AV} {vs : List Value}, valsRel ι N w as vs → vs.length = as.length
 | [], _, h => by have h : _ = [] := h; rw [h]; rfl
 | _ :: _, _, ⟨u, us, e, _, h2⟩ => by subst e; simp [valsRel_len h2]
theorem valsRel_ren {τ : Nat → Nat} : ∀ {as : List AV} {vs : List Value}, valsRel ι N w (renL τ as) vs → valsRel (fun n => ι (τ n)) N w as vs
 | [], _, h => h
 | a :: _, _, ⟨v, vs', e, h1, h2⟩ => ⟨v, vs', e, (AV.val_ren a v).1 h1, valsRel_ren h2⟩
theorem valsRel_bnd {m : Nat} (h : ∀ n L, n < m → ι n = some L → ι' n = some L) : ∀ {as : List AV} {vs : List Value}, bndL m as → valsRel ι N w as vs → valsRel ι' N w as vs
 | [], _, _, hr => hr
 | _ :: _, _, hb, ⟨v, vs', e, h1, h2⟩ => ⟨v, vs', e, AV.val_bnd h hb.1 h1, valsRel_bnd h hb.2 h2⟩
theorem upto_get : ∀ {n i j : Nat}, j < n → (upto n i)[j]? = some (i + j)
 | 0, _, _, h => by omega
 | n + 1, i, j, h => by
  unfold upto
  cases j with
  | zero => simp
  | succ j =>
   rw [List.getElem?_cons_succ, upto_get (by omega)]
   congr 1
   omega
theorem upto_len : ∀ n i, (upto n i).length = n
 | 0, _ => rfl
 | n + 1, i => by unfold upto; simp [upto_len n]
theorem upto_mem : ∀ {n i x : Nat}, x ∈ upto n i → i ≤ x
 | 0, _, _, h => by cases h
 | n + 1, i, x, h => by
  unfold upto at h
  rcases List.mem_cons.1 h with rfl | h
  ·exact Nat.le_refl _
  ·have := upto_mem h; omega
theorem upto_nodup : ∀ n i, (upto n i).Nodup
 | 0, _ => by unfold upto; simp
 | n + 1, i => by
  unfold upto
  rw [List.nodup_cons]
  exact ⟨fun h => by have := upto_mem h; omega, upto_nodup n (i + 1)⟩
end
end Go.Ab
/- Functions: the rule. -/
namespace Go.Ab
open Go Go.Chr Go.RowKit
section
variable {C : Ctx}
theorem run_result_cell {P : Program} {w : World} {t : TypeId} {p u : Value} (h : (Instr.loadAt t p).run P w = .ok u w) : (do loadVar t (← asAddr p)).run P w = .ok u w := by
 unfold Instr.loadAt at h
 cases p with
 | pointer a =>
  cases a with
  | none => simp [Instr.sureAddr] at h
  | some a => simpa [Instr.sureAddr, asAddr] using h
 | _ => simp [Instr.sureAddr] at h
def LRes (P : Program) (w : World) (tmps : Array Value) (l : List ResultVar) (us : List Value) : Prop :=
 (l.mapM fun x : ResultVar => (match x with
  | .tmp t => (pure (tmps.getD t undef) : Sem Value)
  | .cell a t => do loadVar t (← asAddr (tmps.getD a undef)))).run P w = .ok us w
theorem fin_run {st : St} : ∀ {l : List ResultVar} {k : List AV → Prop}, fin C st l k → ∃ vs : List AV, k vs ∧ vs.length = l.length ∧
  ∀ {X : Snap} {ι : Nat → Option Loc} {N : Nat → Prop} {a : Act} {w : World}, Rel C X ι N st a w → ∃ us, LRes C.P w a.tmps l us ∧ valsRel ι N w vs us
 | [], k, h => ⟨[], h, rfl, fun _ => ⟨[], by unfold LRes; simp, rfl⟩⟩
 | .tmp t :: l, k, h => by
  unfold fin at h
  split at h
  ·rename_i v hv
   obtain ⟨vs, hk, hl, h⟩ := fin_run h
   refine ⟨v :: vs, hk, by simp [hl], fun {X ι N a w} H => ?_⟩
   obtain ⟨us, h1, h2⟩ := h H
   refine ⟨a.tmps.getD t undef :: us, ?_, _, _, rfl, H.slots t v hv, h2⟩
   unfold LRes at h1 ⊢
   simp only [List.mapM_cons, Sem.run_bind, Sem.run_pure, Result.andThen_ok, h1]
  ·exact h.elim
 | .cell s t :: l, k, h => by
  unfold fin at h
  split at h
  ·rename_i p hp
   obtain ⟨r, hu, hn, hr, hrd, h⟩ := load_read (C := C) (nx := st.nx) (o := ⟨none, .load t (.tmp s), 0, "", #[], none⟩) (ρ := evalO C st) (t := t) (x := .tmp s) rfl hp h
   obtain ⟨vs, hk, hl, h⟩ := fin_run h
   refine ⟨r.val :: vs, hk, by simp [hl], fun {X ι N a w} H => ?_⟩
   obtain ⟨us, h1, h2⟩ := h H
   obtain ⟨u, hrun, hval⟩ := hr ι N w a (H.pre hrd (fun j hj => by rw [hn] at hj; simp at hj)) (fun x v _ hx => evalO_rel (fun t u _ ht => H.slots t u ht) hx)
   refine ⟨u :: us, ?_, _, _, rfl, hval, h2⟩
   have hld : (Instr.loadAt t (a.tmps.getD s undef)).run C.P w = .ok u w := by
    unfold execOp at hrun
    simp only [Sem.run_bind] at hrun
    change ((Instr.loadAt t (a.tmps.getD s undef)).run C.P w).andThen _ = _ at hrun
    cases hq : (Instr.loadAt t (a.tmps.getD s undef)).run C.P w with
    | ok u' w' =>
     rw [hq] at hrun
     simp only [Result.andThen_ok, Sem.run_pure] at hrun
     injection hrun with e1 e2
     injection e1 with e1
     subst e1; subst e2
     rfl
    | halt x w' => rw [hq] at hrun; cases hrun
   unfold LRes at h1 ⊢
   simp only [List.mapM_cons, Sem.run_bind, Sem.run_pure]
   have := run_result_cell hld
   simp only [Sem.run_bind] at this
   rw [this]
   simp only [Result.andThen_ok, h1]
  ·exact h.elim
theorem tupA_val {ι : Nat → Option Loc} {N : Nat → Prop} {w : World} {vs : List AV} {v : AV} {us : List Value} (h : tupA vs = some v) (hr : valsRel ι N w vs us) :
  v.val ι N w (if h : us.toArray.size = 1 then us.toArray[0] else .tuple us.toArray) := by
 unfold tupA at h
 split at h
 ·injection h with h; subst h
  have hr : us = [] := hr
  subst hr
  rfl
 ·injection h with h; subst h
  obtain ⟨u, us', e, h1, h2⟩ := hr
  have h2 : us' = [] := h2
  subst h2; subst e
  simpa using h1
 ·injection h with h; subst h
  obtain ⟨u, us', e, h1, u2, us2, e2, h2, h3⟩ := hr
  have h3 : us2 = [] := h3
  subst h3; subst e2; subst e
  exact ⟨u, u2, rfl, h1, h2⟩
 ·injection h with h; subst h
  obtain ⟨u, us', e, h1, u2, us2, e2, h2, u3, us3, e3, h3, h4⟩ := hr
  have h4 : us3 = [] := h4
  subst h4; subst e3; subst e2; subst e
  exact ⟨u, u2, u3, rfl, h1, h2, h3⟩
 ·cases h
theorem finK_run {fn : Func} {m : Nat} {o : Out} {st : St} (h : finK C fn m o st) : ∃ v, outK m st.h v = some o ∧
  ∀ {X : Snap} {ι : Nat → Option Loc} {N : Nat → Prop} {a : Act} {w : World}, Rel C X ι N st a w → ∃ u, (results fn a.tmps).run C.P w = .ok u w ∧ v.val ι N w u := by
 obtain ⟨vs, hk, hl, h⟩ := fin_run h
 split at hk
 ·rename_i v hv
  refine ⟨v, hk, fun {X ι N a w} H => ?_⟩
  obtain ⟨us, h1, h2⟩ := h H
  refine ⟨_, ?_, tupA_val hv h2⟩
  unfold results
  rw [Array.mapM_eq_mapM_toList]
  unfold LRes at h1
  simp only [map_eq_pure_bind, Sem.run_bind]
  refine (congrArg (fun r : Result (List Value) => (r.andThen _).andThen _) h1).trans ?_
  simp only [Result.andThen_ok, Sem.run_pure]
 ·exact hk.elim
theorem tauR_lt {s : List Nat} {nx i : Nat} (h : i < s.length) : tauR s nx i = nth s i := by
 unfold tauR
 rw [show Nat.blt i s.length = true from Nat.ble_eq_true_of_le h]; rfl
theorem tauR_ge {s : List Nat} {nx i : Nat} (h : s.length ≤ i) : tauR s nx i = nx + (i - s.length) := by
 unfold tauR
 have : Nat.blt i s.length = false := by
  cases hb : Nat.blt i s.length with
  | false => rfl
  | true => have := Nat.le_of_ble_eq_true hb; omega
 rw [this]; rfl
theorem nth_mem {s : List Nat} {i : Nat} (h : i < s.length) : nth s i ∈ s := by
 unfold nth
 rw [List.getD_eq_getElem?_getD, List.getElem?_eq_getElem h]
 exact List.getElem_mem h
theorem nth_inj {s : List Nat} (hn : s.Nodup) {i j : Nat} (hi : i < s.length) (hj : j < s.length) (h : nth s i = nth s j) : i = j := by
 unfold nth at h
 rw [List.getD_eq_getElem?_getD, List.getD_eq_getElem?_getD, List.getElem?_eq_getElem hi, List.getElem?_eq_getElem hj] at h
 have hp := List.pairwise_iff_getElem.1 hn
 rcases Nat.lt_trichotomy i j with h1 | h1 | h1
 ·exact absurd h (hp i j hi hj h1)
 ·exact h1
 ·exact absurd h.symm (hp j i hj hi h1)
theorem mem_nth {s : List Nat} {n : Nat} (h : n ∈ s) : ∃ i, i < s.length ∧ nth s i = n := by
 obtain ⟨i, hi, e⟩ := List.getElem_of_mem h
 refine ⟨i, hi, ?_⟩
 unfold nth
 rw [List.getD_eq_getElem?_getD, List.getElem?_eq_getElem hi]
 exact e
theorem get_of_nth {s : List Nat} {i : Nat} {n : Nat} (h : s[i]? = some n) : i < s.length ∧ nth s i = n := by
 refine ⟨(List.getElem?_eq_some_iff.1 h).1, ?_⟩
 unfold nth
 rw [List.getD_eq_getElem?_getD, h]; rfl
theorem asking_split {p : Option Prop} {k : Prop} (h : asking p k) : Asked p ∧ k := by
 cases p with
 | none => exact ⟨trivial, h⟩
 | some p => exact h
theorem lift_sound {f : FuncId} {F : FSpec} {modes : List Bool} (hf : FnOk C f F) {args : List AV} {h : Heap} {nx : Nat} {as1 as2 : List AV} {rdc : List (Nat × Blk')} {s1 s : List Nat} {bl : List Blk'} {p : Option Prop} {o : Out}
  (hcl : closeL h modes args = some (as1, rdc)) (hca : cAs as1 [] = (as2, s1)) (hch : cH h 99 0 s1 = some (bl, s)) (hF : F as2 bl = some (p, o)) (hok : okOut s rdc o = true) (hp : Asked p) :
  CallSound C f args nx (outR h s nx rdc o) := by
 obtain ⟨fn, c, hfn, hbody, _, hwalk⟩ := hf.ok
 obtain ⟨hlen, hwalk⟩ := hwalk as2 bl p o hF hp
 obtain ⟨a1, _, a3, a4⟩ := cAs_ok hca
 obtain ⟨b1, b2, b3⟩ := cH_ok hch (Nat.zero_le _)
 have hsnd : s.Nodup := b1.nd (a1.nd List.nodup_nil)
 have hbl : bl.length = s.length := by omega
 unfold okOut at hok
 simp only [Bool.and_eq_true] at hok
 obtain ⟨hap, hsol⟩ := hok
 have hap := apartL_ok hap
 intro ι N w vs hpre hvals
 have hread : ∀ q ∈ rdc, ∃ L, ι q.1 = some L ∧ BlkRel ι N w L q.2 ∧ (L.ph = false → ¬ N L.blk) := fun q hq => hpre.rds q (List.mem_append.2 (.inr hq))
 have hsblk : ∀ i, i < s.length → ∃ b blk L, bl[i]? = some b ∧ b.bnd s.length ∧ (nth s i, blk) ∈ (outR h s nx rdc o).rds ∧ (∀ t, b.ren (nth (s ++ t)) = nB blk) ∧ ι (nth s i) = some L ∧ BlkRel ι N w L blk ∧ (L.ph = false → ¬ N L.blk) := by
  intro i hi
  obtain ⟨b, hb⟩ : ∃ b, bl[i]? = some b := ⟨bl[i], List.getElem?_eq_getElem (by omega)⟩
  obtain ⟨g1, blk, g2, g3⟩ := b3 i b hb
  rw [Nat.zero_add] at g2
  have hm : (nth s i, blk) ∈ (outR h s nx rdc o).rds := List.mem_append.2 (.inl (rdsS_mem (nth_mem hi) g2))
  obtain ⟨L, h1, h2, h3⟩ := hpre.rds _ hm
  exact ⟨b, blk, L, hb, g1, hm, g3, h1, h2, h3⟩
 -- what the callee may take for settled
 let NB : Nat → Prop := fun k => ∃ q ∈ rdc, ∃ L, ι q.1 = some L ∧ L.ph = false ∧ k = L.blk
 let N0 : Nat → Prop := fun k => N k ∨ NB k
 let ι0 : Nat → Option Loc := fun n => if n < s.length then ι (nth s n) else none
 let S : Nat → Prop := fun k => ∃ i, i < s.length ∧ ∃ L, ι (nth s i) = some L ∧ L.ph = false ∧ k = L.blk
 let X : Snap := ⟨w, S, ι0, N0, []⟩
 have hN0 : ∀ k, N k → N0 k := fun k hk => .inl hk
 have hι0 : ∀ n L, n < s.length → ι (nth s n) = some L → ι0 n = some L := fun n L hn hL => by
  show (if n < s.length then ι (nth s n) else none) = some L
  rw [if_pos hn]; exact hL
 have hι0' : ∀ n L, ι0 n = some L → n < s.length ∧ ι (nth s n) = some L := fun n L hL => by
  have hL : (if n < s.length then ι (nth s n) else none) = some L := hL
  split at hL
  ·rename_i hn; exact ⟨hn, hL⟩
  ·cases hL
 have hapart : ∀ i, i < s.length → ∀ L, ι (nth s i) = some L → L.ph = false → ¬ N0 L.blk := by
  intro i hi L hL hph hN
  obtain ⟨b, blk, L', _, _, hm, _, hL', _, hnN⟩ := hsblk i hi
  rw [hL] at hL'; injection hL' with hL'; subst hL'
  rcases hN with hN | ⟨q, hq, Lq, hLq, hphq, e⟩
  ·exact hnN hph hN
  ·refine hpre.apart _ hm q (List.mem_append.2 (.inr hq)) ?_ L Lq hL hLq hph hphq e
   intro e2
   exact hap q hq (by rw [← e2]; exact nth_mem hi)
 have hvals1 : valsRel ι N0 w as1 vs := (closeL_ok hcl).2 hN0 (fun q hq => by
  obtain ⟨L, h1, h2, _⟩ := hread q hq
  exact ⟨L, h1, h2, fun hph => .inr ⟨q, hq, L, h1, hph, rfl⟩⟩) vs hvals
 have hvals2 : valsRel ι0 N0 w as2 vs := by
  obtain ⟨t, et⟩ := b1.ext
  have h1 := a4 t
  rw [← et] at h1
  rw [← h1] at hvals1
  exact valsRel_bnd (m := s.length) (fun n L hn hL => hι0 n L hn hL) (bndL_mono b1.le a3) (valsRel_ren hvals1)
 have henv : Env C N0 w := by
  refine ⟨?_, fun g blk hg => ?_⟩
  ·rintro k (hk | ⟨q, hq, L, hL, hph, rfl⟩)
   ·exact hpre.env.1 k hk
   ·obtain ⟨L', h1, h2, _⟩ := hread q hq
    rw [hL] at h1; injection h1 with h1; subst h1
    exact h2.lt hph
  ·obtain ⟨h1, ty, esz, body, xs, post, e, hl⟩ := hpre.env.2 g blk hg
   exact ⟨.inl h1, ty, esz, body, xs, post, e, hl.mono (fun _ _ h => h) hN0 (fun _ _ => rfl) rfl⟩
 have hsize : vs.length = as2.length := valsRel_len hvals2
 have H0 : Rel C X ι0 N0 (entry fn as2 bl) { tmps := vs.toArray ++ Array.replicate (fn.ntmps - vs.toArray.size) undef, defers := [] } w := by
  refine ⟨?_, ?_, ?_, henv, ?_, fun k hk => hk, fun k hk => .inl hk, fun b L hb => hb, Upd.refl _ _, ?_, rfl⟩
  ·intro t v hv
   obtain ⟨_, hv⟩ := slotsL_get (i := 0) hv
   rw [Nat.sub_zero] at hv
   obtain ⟨u, hu, hval⟩ := valsRel_at hvals2 hv
   have : (vs.toArray ++ Array.replicate (fn.ntmps - vs.toArray.size) undef).getD t undef = u := by
    have hlt := (List.getElem?_eq_some_iff.1 hu).1
    rw [Array.getD_eq_getD_getElem?, Array.getElem?_append_left (by simpa using hlt)]
    simp [hu]
   show v.val ι0 N0 w ((vs.toArray ++ Array.replicate (fn.ntmps - vs.toArray.size) undef).getD t undef)
   rw [this]; exact hval
  ·intro b blk hb
   obtain ⟨_, hb⟩ := heapL_get (i := 0) hb
   rw [Nat.sub_zero] at hb
   have hlt : b < s.length := by
    have := (List.getElem?_eq_some_iff.1 hb).1
    omega
   obtain ⟨b', blk0, L, hb', g1, _, g3, hL, hrel, hnN⟩ := hsblk b hlt
   rw [hb] at hb'; injection hb' with hb'; subst hb'
   refine ⟨L, hι0 _ _ hlt hL, ?_, fun hph => ⟨hapart b hlt L hL hph, .inl ⟨b, hlt, L, hL, hph, rfl⟩⟩⟩
   have h2 := nB_rel hrel
   have h3 := g3 []
   rw [List.append_nil] at h3
   rw [← h3] at h2
   exact Blk'.rel_bnd (m := s.length) (fun n L hn hL => hι0 n L hn hL) g1 ((Blk'.rel_ren blk).1 (h2.mono (fun _ _ h => h) hN0 (fun _ _ => rfl) (fun _ => rfl)))
  ·intro b b' blk blk' L L' _ _ hne hL hL' hph hph'
   obtain ⟨hb, hL⟩ := hι0' _ _ hL
   obtain ⟨hb', hL'⟩ := hι0' _ _ hL'
   obtain ⟨_, blk1, _, _, _, hm, _⟩ := hsblk b hb
   obtain ⟨_, blk2, _, _, _, hm', _⟩ := hsblk b' hb'
   exact hpre.apart _ hm _ hm' (fun e => hne (nth_inj hsnd hb hb' e)) L L' hL hL' hph hph'
  ·intro b L hL
   have := (hι0' _ _ hL).1
   show b < bl.length
   omega
  ·show (vs.toArray ++ Array.replicate (fn.ntmps - vs.toArray.size) undef).size = fn.ntmps
   simp; omega
 refine calls_of_wp hfn hbody (wp_mono (hwalk X rfl (fun b L hb => by have := (hι0' _ _ hb).1; omega) _ _ ⟨ι0, N0, H0⟩) ?_)
 rintro e a' w' ⟨st', ⟨ι1, N1, H⟩, hx⟩
 have key : finK C fn bl.length o st' → a'.defers = [] ∧ ∃ v, (results fn a'.tmps).run C.P w' = .ok v w' ∧
   ∃ u, Ending.returned v = .returned u ∧ ∃ ι' N', Post ι N w ι' N' w' nx (outR h s nx rdc o) ∧ (outR h s nx rdc o).val.val ι' N' w' u := by
  intro hx
  refine ⟨H.ds, ?_⟩
  obtain ⟨v, hout, hrun⟩ := finK_run hx
  obtain ⟨u, hrun, hval⟩ := hrun H
  refine ⟨u, hrun, u, rfl, ?_⟩
  unfold outK at hout
  split at hout
  rename_i v' t1 hcv
  split at hout
  rename_i outs t2 hcE
  split at hout
  ·rename_i news t3 hcH
   injection hout with hout
   subst hout
   obtain ⟨c1, c2, c3⟩ := cA_ok hcv
   obtain ⟨d1, d2, d3, d4⟩ := cE_ok hcE
   have hle2 : bl.length ≤ t2.length := by
    have := (c1.trans d1).le
    rw [upto_len] at this; exact this
   obtain ⟨e1, e2, e3⟩ := cH_ok hcH hle2
   have hst : CanonStep (upto bl.length 0) t3 := (c1.trans d1).trans e1
   have ht3 : t3.Nodup := hst.nd (upto_nodup _ _)
   have hlow : ∀ n, n < s.length → nth t3 n = n := by
    intro n hn
    obtain ⟨t, et⟩ := hst.ext
    rw [et, nth_app (by rw [upto_len]; omega)]
    unfold nth
    rw [List.getD_eq_getElem?_getD, upto_get (by omega)]; simp
   have hnl : news.length + s.length = t3.length := by omega
   let ι' : Nat → Option Loc := fun b => if nx ≤ b ∧ b < nx + news.length then ι1 (nth t3 (s.length + (b - nx))) else ι b
   let N' : Nat → Prop := fun k => N1 k ∧ (N k ∨ w.heap.size ≤ k)
   have hnlen : (outR h s nx rdc ⟨v', outs, news⟩).news.length = news.length := renBs_len _
   have hι'old : ∀ b L, ι b = some L → ι' b = some L := by
    intro b L hb
    show (if nx ≤ b ∧ b < nx + news.length then _ else ι b) = some L
    rw [if_neg]
    ·exact hb
    ·rintro ⟨h1, h2⟩
     have := hpre.fresh (b - nx) (by rw [hnlen]; omega)
     rw [show nx + (b - nx) = b by omega, hb] at this
     cases this
   have hι'new : ∀ j, j < news.length → ι' (nx + j) = ι1 (nth t3 (s.length + j)) := by
    intro j hj
    show (if nx ≤ nx + j ∧ nx + j < nx + news.length then _ else _) = _
    rw [if_pos (by omega), show nx + j - nx = j by omega]
   have hent : ∀ i L, i < s.length → ι1 i = some L → ι (nth s i) = some L := by
    intro i L hi hL
    obtain ⟨_, _, L', _, _, _, _, hL', _⟩ := hsblk i hi
    have := H.i0 i L' (hι0 _ _ hi hL')
    rw [hL] at this; injection this with this; subst this
    exact hL'
   have hτ : ∀ n L, n < t3.length → ι1 (nth t3 n) = some L → ι' (tauR s nx n) = some L := by
    intro n L hn hL
    rcases Nat.lt_or_ge n s.length with hlt | hge
    ·rw [tauR_lt hlt]
     rw [hlow n hlt] at hL
     exact hι'old _ _ (hent n L hlt hL)
    ·rw [tauR_ge hge, hι'new _ (by omega), show s.length + (n - s.length) = n by omega]
     exact hL
   have hNN : nilL rdc = true → ∀ k, N1 k → N' k := by
    intro hr k hk
    refine ⟨hk, ?_⟩
    rcases H.nN k hk with (h1 | ⟨q, hq, _⟩) | h1
    ·exact .inl h1
    ·cases rdc with
     | nil => cases hq
     | cons _ _ => cases hr
    ·exact .inr h1
   have hvalR : (outR h s nx rdc ⟨v', outs, news⟩).val.val ι' N' w' u := by
    show (v'.ren (tauR s nx)).val ι' N' w' u
    rw [AV.val_ren]
    have h1 : (normV v).val ι1 N1 w' u := normV_val hval
    obtain ⟨t, et⟩ := (d1.trans e1).ext
    have h2 := c3 t
    rw [← et] at h2
    rw [← h2, AV.val_ren] at h1
    have h3 := AV.val_bnd (m := t3.length) hτ (AV.bnd_mono (d1.trans e1).le c2) h1
    cases hr : nilL rdc with
    | true => exact h3.mono (fun _ _ h => h) (hNN hr) (fun _ _ => rfl)
    | false =>
     rw [hr] at hsol
     simp only [Bool.false_or, Bool.and_eq_true] at hsol
     exact asVal.mono (fun _ hx => AV.rel_solid hsol.1 hx) h3
   have hblk : ∀ {b blk : Blk'} {L : Loc}, b.bnd t3.length → b.ren (nth t3) = nB blk → (nilL rdc = true ∨ b.solid = true) → BlkRel ι1 N1 w' L blk → BlkRel ι' N' w' L (b.ren (tauR s nx)) := by
    intro b blk L hb he hsol hrel
    rw [Blk'.rel_ren]
    have h1 := nB_rel hrel
    rw [← he, Blk'.rel_ren] at h1
    have h3 := Blk'.rel_bnd (m := t3.length) hτ hb h1
    rcases hsol with hr | hs
    ·exact h3.mono (fun _ _ h => h) (hNN hr) (fun _ _ => rfl) (fun _ => rfl)
    ·exact Blk'.rel_solid hs h3
   refine ⟨ι', N', ⟨hι'old, ?_, fun k hk => ⟨H.n0 k (.inl hk), .inl hk⟩, fun k hk => hk.2, fun k hk => H.env.1 k hk.1, ?_, ?_, ?_, ?_⟩, hvalR⟩
   ·intro b L hb
    have hb : (if nx ≤ b ∧ b < nx + news.length then ι1 (nth t3 (s.length + (b - nx))) else ι b) = some L := hb
    split at hb
    ·rename_i hc; exact .inr (by rw [hnlen]; exact hc)
    ·exact .inl hb
   ·refine ⟨H.upd.os, H.upd.tape, H.upd.output, H.upd.size, fun k hk hn => H.upd.heap k hk ?_⟩
    rintro ⟨i, hi, L, hL, hph, rfl⟩
    refine hn ⟨_, zipU_get (τ := tauR s nx) (s := s) (l := outs) (j := i) (by omega) (List.getElem?_eq_getElem (show i < outs.length by omega)), L, hL, hph, rfl⟩
   ·intro b blk hm
    obtain ⟨j, oo, h1, h2, h3⟩ := zipU_mem hm
    obtain ⟨hj, h2⟩ := get_of_nth h2
    simp only at h2 h3
    cases oo with
    | none => cases h3
    | some b0 =>
     injection h3 with h3
     obtain ⟨k1, blk0, k2, k3⟩ := d3 j b0 h1
     rw [Nat.zero_add] at k2
     obtain ⟨L, m1, m2, _⟩ := H.blks _ _ k2
     refine ⟨L, by rw [← h2]; exact hent j L hj m1, ?_⟩
     rw [h3]
     obtain ⟨t, et⟩ := e1.ext
     have h4 := k3 t
     rw [← et] at h4
     refine hblk (Blk'.bnd_mono e1.le k1) h4 ?_ m2
     cases hr : nilL rdc with
     | true => exact .inl rfl
     | false =>
      rw [hr] at hsol
      simp only [Bool.false_or, Bool.and_eq_true] at hsol
      exact .inr (solidOs_at hsol.2.1 h1)
   ·intro j blk hj
    obtain ⟨b0, h1, h2⟩ := renBs_get hj
    have hjl : j < news.length := (List.getElem?_eq_some_iff.1 h1).1
    obtain ⟨k1, blk0, k2, k3⟩ := e3 j b0 h1
    have k2 : getK st'.h (nth t3 (s.length + j)) = some blk0 := by rw [← hbl]; exact k2
    obtain ⟨L, m1, m2, m3⟩ := H.blks _ _ k2
    refine ⟨L, by rw [hι'new j hjl]; exact m1, ?_, fun hph => ?_⟩
    ·rw [h2]
     have h4 := k3 []
     rw [List.append_nil] at h4
     refine hblk k1 h4 ?_ m2
     cases hr : nilL rdc with
     | true => exact .inl rfl
     | false =>
      rw [hr] at hsol
      simp only [Bool.false_or, Bool.and_eq_true] at hsol
      exact .inr (solidBs_at hsol.2.2 h1)
    ·obtain ⟨g1, g2⟩ := m3 hph
     refine ⟨fun hN' => g1 hN'.1, ?_⟩
     rcases g2 with ⟨i, hi, L0, hL0, hph0, e0⟩ | g2
     ·refine .inr ⟨nth s i, L0, ?_, hL0, hph0, e0⟩
      have hgone : getK st'.h (0 + i) = none := by
       rw [Nat.zero_add]
       cases hg : getK st'.h i with
       | none => rfl
       | some blki =>
        exfalso
        refine H.inj i (nth t3 (s.length + j)) _ _ L0 L hg k2 ?_ (H.i0 i L0 (hι0 _ _ hi hL0)) m1 hph0 hph e0.symm
        intro e
        have := nth_inj ht3 (i := i) (j := s.length + j) (by omega) (by omega) (by rw [hlow i hi]; exact e)
        omega
      have := d4 i (by omega) hgone
      have hz := zipU_get (τ := tauR s nx) (s := s) (l := outs) (j := i) (by omega) this
      exact hz
     ·exact .inl g2
   ·intro i j Li Lj hi hj hne hLi hLj hphi hphj
    rw [hnlen] at hi hj
    rw [hι'new i hi] at hLi
    rw [hι'new j hj] at hLj
    obtain ⟨_, blk1, k2, _⟩ := e3 i _ (List.getElem?_eq_getElem hi)
    obtain ⟨_, blk2, k2', _⟩ := e3 j _ (List.getElem?_eq_getElem hj)
    rw [hbl] at k2 k2'
    refine H.inj _ _ _ _ Li Lj k2 k2' ?_ hLi hLj hphi hphj
    intro e
    have := nth_inj ht3 (by omega) (by omega) e
    omega
  ·cases hout
 cases e with
 | normal => exact key hx
 | ret => exact key hx
 | exit i => exact hx.elim
 | goto l => exact hx.elim
 | panic ch => exact hx.elim
 | outgrown => exact hx.elim
theorem lift_ok {f : FuncId} {F : FSpec} (hf : FnOk C f F) (modes : List Bool) : ContractOk C f (lift modes F) := by
 have hfn : (C.P.funcs[f]?).map (fun fn => (fn.name == "runtime.NumGoroutine", fn.body.isSome)) = some (false, true) := by
  obtain ⟨fn, c, h1, h2, h3, _⟩ := hf.ok
  rw [h1]
  simp [h2, h3]
 refine ⟨?_⟩
 ·intro args h nx k hk
  unfold lift at hk
  split at hk
  ·exact hk.elim
  rename_i as1 rdc hcl
  split at hk
  rename_i as2 s1 hca
  split at hk
  ·exact hk.elim
  rename_i bl s hch
  split at hk
  ·exact hk.elim
  rename_i p o hF
  replace hk := cond_prop hk
  obtain ⟨hok, hk⟩ := hk
  replace hk := asking_split hk
  obtain ⟨hp, hk⟩ := hk
  obtain ⟨a1, _, _, _⟩ := cAs_ok hca
  obtain ⟨b1, b2, b3⟩ := cH_ok hch (Nat.zero_le _)
  have hsnd : s.Nodup := b1.nd (a1.nd List.nodup_nil)
  refine ⟨_, (lift_sound hf hcl hca hch hF hok hp).fits hfn, ⟨?_, (zipU_keys hsnd).1⟩, ?_, hk⟩
  ·intro q hq
   have hm := (zipU_keys (τ := tauR s nx) (l := o.outs) hsnd).2 q.1 (List.mem_map.2 ⟨q, hq, rfl⟩)
   obtain ⟨i, hi, e⟩ := mem_nth hm
   obtain ⟨_, blk, g2, _⟩ := b3 i bl[i] (List.getElem?_eq_getElem (by omega))
   rw [Nat.zero_add, e] at g2
   exact ⟨(q.1, blk), List.mem_append.2 (.inl (rdsS_mem hm g2)), rfl⟩
  ·intro q hq
   rcases List.mem_append.1 hq with hq | hq
   ·exact (rdsS_get q hq).2
   ·exact (closeL_ok (ι := fun _ => none) (w := default) hcl).1 q hq
end
end Go.Ab
/- Operations: parts of values, choice, pointers that are there. -/
namespace Go.Ab
open Go Go.Chr Go.RowKit
def partA (C : Ctx) (v : AV) (t : TypeId) (off : Nat) : Option AV := match kindOf C t with
 | some (agg, size) => bif Nat.ble (off + size) v.size && (agg || Nat.beq size 1) then loadV v off agg size else none
 | none => none
def aPart (C : Ctx) (t : TypeId) (v : AV) (f : Nat) (k : OpR → Prop) : Prop := match C.P.underlying t with
 | some (.struct fs) => match fs[f]? with
  | some x => match (bif v.isAgg then partA C v x.type x.offset else none) with
   | some u => k ⟨u, [], [], []⟩
   | none => False
  | none => False
 | _ => False
def aIndex (C : Ctx) (t : TypeId) (v ix : AV) (k : OpR → Prop) : Prop := match C.P.underlying t, ix with
 | some .string, .c (.int _ z) => match v with
  | .c (.str l) => cond (decide (0 ≤ z) && decide (z < l.length)) (k ⟨.c (.int .u8 (l.getD z.toNat 0)), [], [], []⟩) False
  | _ => False
 | some (.array n e), .c (.int _ z) => cond (decide (0 ≤ z) && decide (z < n)) (match (bif v.isAgg then partA C v e (z.toNat * C.P.cellsOf e) else none) with
  | some u => k ⟨u, [], [], []⟩
  | none => False) False
 | _, _ => False
def aPick (c : AV) (a b : Option AV) (k : OpR → Prop) : Prop := match c with
 | .c (.bool t) => match a, b with
  | some (.c (.bool x)), some (.c (.bool y)) => k ⟨.c (.bool (cond t x y)), [], [], []⟩
  | a, b => cond t (match a with | some v => k ⟨v, [], [], []⟩ | none => False) (match b with | some v => k ⟨v, [], [], []⟩ | none => False)
 | _ => False
def aNil (a : AV) (k : OpR → Prop) : Prop := cond (isSome' a) (k ⟨a, [], [], []⟩) False
section
variable {C : Ctx} {ι : Nat → Option Loc} {N : Nat → Prop} {w : World} {nx : Nat} {r : OpR} {o : Oper} {ρ : Operand → Option AV}
theorem partA_run {v : AV} {t : TypeId} {off : Nat} {u : AV} {cells : List Value} (hv : v.rel ι N w cells) (h : partA C v t off = some u) :
  ∃ x, (∀ W, (part t cells.toArray off).run C.P W = .ok x W) ∧ u.val ι N w x := by
 unfold partA at h
 split at h
 ·rename_i agg size hk
  cases hb : Nat.ble (off + size) v.size && (agg || Nat.beq size 1) with
  | false => rw [hb] at h; cases h
  | true =>
   rw [hb] at h
   simp only [Bool.and_eq_true, Bool.or_eq_true] at hb
   obtain ⟨h1, h2⟩ := hb
   have h1 := bleN h1
   obtain ⟨ha, hr⟩ := loadV_rel hv h1 h
   obtain ⟨d, i, hu, hi, hd, hs⟩ := kindOf_eq hk
   have hl := hv.len
   have hagg : ∀ W, (isAgg t).run C.P W = .ok agg W := by
    intro W
    unfold isAgg
    rw [Sem.run_bind, run_underlying hu W]
    subst hd
    cases d <;> rfl
   unfold AV.val
   rw [ha]
   cases agg with
   | true =>
    refine ⟨_, fun W => ?_, _, rfl, hr⟩
    simp [part, hagg, sizeOf, typeInfo, hi, hs]
   | false =>
    have h2 : size = 1 := by
     rcases h2 with h2 | h2
     ·cases h2
     ·exact beqN h2
    subst h2
    have hlt : off < cells.length := by omega
    refine ⟨cells[off], fun W => ?_, ?_⟩
    ·unfold part
     simp [Sem.run_bind, hagg W, hlt]
    ·have e : (cells.drop off).take 1 = [cells[off]] := by
      rw [List.drop_eq_getElem_cons hlt]; rfl
     rw [e] at hr
     exact hr
 ·cases h
theorem partA_info {v : AV} {t : TypeId} {off : Nat} {u : AV} (h : partA C v t off = some u) : ∃ i, C.P.info? t = some i := by
 unfold partA at h
 split at h
 ·rename_i hk
  obtain ⟨_, i, _, hi, _⟩ := kindOf_eq hk
  exact ⟨i, hi⟩
 ·cases h
theorem val_agg {v : AV} {x : Value} (ha : v.isAgg = true) (h : v.val ι N w x) : ∃ cs : List Value, x = .agg cs.toArray ∧ v.rel ι N w cs := by
 unfold AV.val at h
 rw [ha] at h
 exact h
theorem sound_part {h : Heap} {t : TypeId} {x : Operand} {f : Nat} (ho : o.op = .field t x f) {v : AV} (hx : ρ x = some v) {k : OpR → Prop} (hk : aPart C t v f k) :
  ∃ r, OpSound C nx o ρ r ∧ r.Ok ∧ (∀ q ∈ r.rds, getK h q.1 = some q.2) ∧ k r := by
 have mx : x ∈ o.op.operands := by rw [ho]; simp [Op.operands]
 unfold aPart at hk
 split at hk
 ·rename_i fs hu
  split at hk
  ·rename_i fx hf
   split at hk
   ·rename_i u hpu
    cases ha : v.isAgg with
    | false => rw [ha] at hpu; cases hpu
    | true =>
     rw [ha] at hpu
     simp only [cond_true] at hpu
     refine read_out hk fun ι N w act henv hop => ?_
     obtain ⟨cs, e, hr⟩ := val_agg ha (hop x _ mx hx)
     obtain ⟨y, hrun, hval⟩ := partA_run hr hpu
     refine ⟨y, ?_, hval⟩
     unfold execOp
     simp only [ho, Instr.field, Sem.run_bind, run_underlying hu, Result.andThen_ok, hf, e, asAgg, Sem.run_pure, hrun]
   ·exact hk.elim
  ·exact hk.elim
 ·exact hk.elim
theorem bytesOf_get (s : ByteArray) {i : Nat} (h : i < s.size) : (bytesOf s).getD i 0 = (s[i].toNat : Int) := by
 unfold bytesOf
 rw [List.getD_eq_getElem?_getD, List.getElem?_map, List.getElem?_eq_getElem (by rw [Array.length_toList]; exact h)]
 rfl
theorem sound_index {h : Heap} {t : TypeId} {x y : Operand} (ho : o.op = .index t x y) {v ix : AV} (hx : ρ x = some v) (hy : ρ y = some ix) {k : OpR → Prop} (hk : aIndex C t v ix k) :
  ∃ r, OpSound C nx o ρ r ∧ r.Ok ∧ (∀ q ∈ r.rds, getK h q.1 = some q.2) ∧ k r := by
 have mx : x ∈ o.op.operands := by rw [ho]; simp [Op.operands]
 have my : y ∈ o.op.operands := by rw [ho]; simp [Op.operands]
 unfold aIndex at hk
 split at hk
 ·rename_i kz z hu
  split at hk
  ·rename_i l
   replace hk := cond_prop hk
   obtain ⟨h1, hk⟩ := hk
   simp only [Bool.and_eq_true, decide_eq_true_eq] at h1
   obtain ⟨h0, h1⟩ := h1
   refine read_out hk fun ι N w act henv hop => ?_
   obtain ⟨s, e1, rfl⟩ := val_str (hop x _ mx hx)
   obtain ⟨e2, _⟩ := val_int (hop y _ my hy)
   rw [size_bytes] at h1
   have hlt : z.toNat < s.size := by omega
   refine ⟨.int .u8 (s[z.toNat].toNat), ?_, ?_⟩
   ·unfold execOp
    simp [ho, Instr.index, e1, e2, asIntOf, run_underlying hu, h0, hlt]
   ·rw [bytesOf_get s hlt]
    refine ⟨rfl, fun _ => ⟨by show (0 : Int) ≤ _; omega, ?_⟩⟩
    have := s[z.toNat].toNat_lt
    show ((s[z.toNat].toNat : Nat) : Int) ≤ 255
    omega
  ·exact hk.elim
 ·rename_i n e kz z hu
  replace hk := cond_prop hk
  obtain ⟨h1, hk⟩ := hk
  simp only [Bool.and_eq_true, decide_eq_true_eq] at h1
  obtain ⟨h0, h1⟩ := h1
  split at hk
  ·rename_i u hpu
   cases ha : v.isAgg with
   | false => rw [ha] at hpu; cases hpu
   | true =>
    rw [ha] at hpu
    simp only [cond_true] at hpu
    refine read_out hk fun ι N w act henv hop => ?_
    obtain ⟨cs, e1, hr⟩ := val_agg ha (hop x _ mx hx)
    obtain ⟨e2, _⟩ := val_int (hop y _ my hy)
    obtain ⟨i, hi⟩ := partA_info hpu
    have hsz : C.P.cellsOf e = i.size := by unfold Program.cellsOf; rw [hi]; rfl
    rw [hsz] at hpu
    obtain ⟨y', hrun, hval⟩ := partA_run hr hpu
    refine ⟨y', ?_, hval⟩
    unfold execOp
    simp [ho, Instr.index, e1, e2, asIntOf, run_underlying hu, h0, h1, sizeOf, typeInfo, hi, hrun]
  ·exact hk.elim
 ·exact hk.elim
theorem sound_pick {h : Heap} {c x y : Operand} (ho : o.op = .pick c x y) {v : AV} (hc : ρ c = some v) {k : OpR → Prop} (hk : aPick v (ρ x) (ρ y) k) :
  ∃ r, OpSound C nx o ρ r ∧ r.Ok ∧ (∀ q ∈ r.rds, getK h q.1 = some q.2) ∧ k r := by
 have mc : c ∈ o.op.operands := by rw [ho]; simp [Op.operands]
 have mx : x ∈ o.op.operands := by rw [ho]; simp [Op.operands]
 have my : y ∈ o.op.operands := by rw [ho]; simp [Op.operands]
 have hrun : ∀ (a : Act) (w : World) (t : Bool), a.eval c = .bool t → (execOp a.eval o).run C.P w = .ok (.value (if t then a.eval x else a.eval y)) w := by
  intro a w t e
  unfold execOp
  cases t <;> simp [ho, e, asBool]
 unfold aPick at hk
 split at hk
 ·rename_i t
  split at hk
  ·rename_i x' y' hx hy
   refine read_out hk fun ι N w act henv hop => ?_
   have e := val_bool' (hop c _ mc hc)
   have e1 := val_bool' (hop x _ mx hx)
   have e2 := val_bool' (hop y _ my hy)
   refine ⟨_, hrun act w t e, ?_⟩
   cases t
   ·simp only [Bool.false_eq_true, if_false, e2]; rfl
   ·simp only [if_true, e1]; rfl
  ·cases t with
   | true =>
    simp only [cond_true] at hk
    split at hk
    ·rename_i u hu
     refine read_out hk fun ι N w act henv hop => ?_
     have e := val_bool' (hop c _ mc hc)
     exact ⟨_, hrun act w true e, hop x _ mx hu⟩
    ·exact hk.elim
   | false =>
    simp only [cond_false] at hk
    split at hk
    ·rename_i u hu
     refine read_out hk fun ι N w act henv hop => ?_
     have e := val_bool' (hop c _ mc hc)
     exact ⟨_, hrun act w false e, hop y _ my hu⟩
    ·exact hk.elim
 ·exact hk.elim
theorem sound_nil {h : Heap} {x : Operand} (ho : o.op = .nilCheck x) {v : AV} (hx : ρ x = some v) {k : OpR → Prop} (hk : aNil v k) :
  ∃ r, OpSound C nx o ρ r ∧ r.Ok ∧ (∀ q ∈ r.rds, getK h q.1 = some q.2) ∧ k r := by
 have mx : x ∈ o.op.operands := by rw [ho]; simp [Op.operands]
 obtain ⟨h1, hk⟩ := cond_prop hk
 refine read_out hk fun ι N w act henv hop => ?_
 obtain ⟨ad, e⟩ := val_some h1 (hop x _ mx hx)
 refine ⟨act.eval x, ?_, hop x _ mx hx⟩
 unfold execOp
 simp [ho, e]
end
end Go.Ab
