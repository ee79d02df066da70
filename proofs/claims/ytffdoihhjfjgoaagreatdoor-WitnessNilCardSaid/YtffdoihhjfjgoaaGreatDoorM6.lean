import Derived.Test.YtffdoihhjfjgoaaGreatDoorM5
/- Functions as values: made, and called. -/
namespace Go.Ab
open Go Go.Chr Go.RowKit
def prL : List AV → AV
 | [] => .c .nl
 | a :: l => .pr a (prL l)
def plainL : List AV → Bool
 | [] => true
 | a :: l => !a.isAgg && plainL l
def unprC : CV → Option (List AV)
 | .nl => some []
 | .pr a b => bif a.isAgg then none else (match unprC b with
  | some l => some (.c a :: l)
  | none => none)
 | _ => none
def unprL : AV → Option (List AV)
 | .c v => unprC v
 | .pr a b => bif a.isAgg then none else (match unprL b with
  | some l => some (a :: l)
  | none => none)
 | _ => none
def aMkFn (f : FuncId) (first caps : List Operand) (ρ : Operand → Option AV) (k : OpR → Prop) : Prop := match first, caps with
 | [], cs => match evalL ρ cs with
  | some as => cond (plainL as) (k ⟨.fn (4 * f) (prL as), [], [], []⟩) False
  | none => False
 | [x], [] => match ρ x with
  | some a => k ⟨.fn (4 * f + (bif a.isAgg then 2 else 1)) a, [], [], []⟩
  | none => False
 | _, _ => False
def aCallF (Γ : Tab) (g : Nat) (caps : AV) (args : List Operand) (ρ : Operand → Option AV) (h : Heap) (nx : Nat) (k : OpR → Prop) : Prop := match getK Γ (g / 4), evalL ρ args with
 | some F, some as => bif Nat.beq (g % 4) 0 then (match unprL caps with
  | some l => F (as ++ l) h nx k
  | none => False) else cond (Nat.beq (g % 4) 1 == !caps.isAgg) (F (caps :: as) h nx k) False
 | _, _ => False
def fnK (Γ : Tab) (K : OpK) : OpK := fun h nx o ρ k => match o.op with
 | .makeFunc (.func f) first caps => aMkFn f first.toList caps.toList ρ k
 | .call ⟨.value (.tmp t), args, _⟩ => match ρ (.tmp t) with
  | some (.fn g caps) => aCallF Γ g caps args.toList ρ h nx k
  | _ => False
 | _ => K h nx o ρ k
section
variable {C : Ctx} {ι ι' : Nat → Option Loc} {N N' : Nat → Prop} {w w' : World} {nx : Nat} {o : Oper} {ρ : Operand → Option AV}
theorem val_one {a : AV} {v : Value} (ha : a.isAgg = false) (h : a.val ι N w v) : a.rel ι N w [v] := by
 unfold AV.val at h; rw [ha] at h; exact h
theorem prL_rel : ∀ {as : List AV} {vs : List Value}, plainL as = true → valsRel ι N w as vs → (prL as).rel ι N w vs
 | [], vs, _, h => by
  have h : vs = [] := h
  subst h; rfl
 | a :: l, vs, hp, ⟨u, vs', e, h1, h2⟩ => by
  unfold plainL at hp
  simp only [Bool.and_eq_true, Bool.not_eq_true'] at hp
  subst e
  exact ⟨[u], vs', rfl, val_one hp.1 h1, prL_rel hp.2 h2⟩
theorem one_of_len {cs : List Value} (h : cs.length = 1) : ∃ u, cs = [u] := by
 match cs, h with
 | [u], _ => exact ⟨u, rfl⟩
theorem CV.size_plain {a : CV} (h : a.isAgg = false) : a.size = 1 := by cases a <;> first | rfl | cases h
theorem AV.size_plain {a : AV} (h : a.isAgg = false) : a.size = 1 := by
 cases a with
 | c v => exact CV.size_plain h
 | _ => first | rfl | cases h
theorem unprC_rel : ∀ {v : CV} {l : List AV} {vs : List Value}, unprC v = some l → v.rel N w vs → valsRel ι N w l vs
 | .nl, l, vs, h, hv => by
  injection h with h; subst h; exact hv
 | .pr a b, l, vs, h, hv => by
  unfold unprC at h
  cases ha : a.isAgg with
  | true => rw [ha] at h; cases h
  | false =>
   rw [ha] at h
   obtain ⟨c1, c2, e, h1, h2⟩ := hv
   cases hb : unprC b with
   | none => rw [hb] at h; cases h
   | some l' =>
    rw [hb] at h
    injection h with h
    have hl := h1.len
    rw [CV.size_plain ha] at hl
    obtain ⟨u, rfl⟩ := one_of_len hl
    rw [e, ← h]
    refine ⟨u, c2, rfl, ?_, unprC_rel hb h2⟩
    show asVal a.isAgg _ u
    rw [ha]; exact h1
 | .int _ _, _, _, h, _ => by cases h
 | .bool _, _, _, h, _ => by cases h
 | .str _, _, _, h, _ => by cases h
 | .raw _, _, _, h, _ => by cases h
 | .nat _ _, _, _, h, _ => by cases h
 | .arr _ _ _, _, _, h, _ => by cases h
 | .ints _ _, _, _, h, _ => by cases h
 | .rows _ _ _, _, _, h, _ => by cases h
theorem unprL_rel : ∀ {v : AV} {l : List AV} {vs : List Value}, unprL v = some l → v.rel ι N w vs → valsRel ι N w l vs
 | .c v, l, vs, h, hv => unprC_rel h hv
 | .pr a b, l, vs, h, hv => by
  unfold unprL at h
  cases ha : a.isAgg with
  | true => rw [ha] at h; cases h
  | false =>
   rw [ha] at h
   obtain ⟨c1, c2, e, h1, h2⟩ := hv
   cases hb : unprL b with
   | none => rw [hb] at h; cases h
   | some l' =>
    rw [hb] at h
    injection h with h
    have hl := h1.len
    rw [AV.size_plain ha] at hl
    obtain ⟨u, rfl⟩ := one_of_len hl
    rw [e, ← h]
    refine ⟨u, c2, rfl, ?_, unprL_rel hb h2⟩
    unfold AV.val
    rw [ha]; exact h1
 | .ptr _ _ _ _, _, _, h, _ => by cases h
 | .cp _ _ _, _, _, h, _ => by cases h
 | .own _ _ _, _, _, h, _ => by cases h
 | .sub _ _ _ _, _, _, h, _ => by cases h
 | .inn _ _ _ _ _ _, _, _, h, _ => by cases h
 | .t0, _, _, h, _ => by cases h
 | .t2 _ _, _, _, h, _ => by cases h
 | .t3 _ _ _, _, _, h, _ => by cases h
 | .fn _ _, _, _, h, _ => by cases h
 | .hd _ _, _, _, h, _ => by cases h
theorem valsRel_app : ∀ {as bs : List AV} {vs us : List Value}, valsRel ι N w as vs → valsRel ι N w bs us → valsRel ι N w (as ++ bs) (vs ++ us)
 | [], bs, vs, us, h, h2 => by
  have h : vs = [] := h
  subst h; exact h2
 | a :: as, bs, vs, us, ⟨u, vs', e, h1, h2⟩, h3 => by
  subst e
  exact ⟨u, vs' ++ us, rfl, h1, valsRel_app h2 h3⟩
theorem val_fn {g : Nat} {caps : AV} {v : Value} (h : (AV.fn g caps).val ι N w v) : ∃ us, v = fnVal g us ∧ caps.rel ι N w us := by
 obtain ⟨us, e, h⟩ := h
 injection e with e
 exact ⟨us, e, h⟩
theorem exec_callT {a : Act} {t : Nat} {args : Array Operand} {ts : Array TypeId} (ho : o.op = .call ⟨.value (.tmp t), args, ts⟩) {f : FuncId} {us vs : Array Value} (hv : a.eval (.tmp t) = .func (.func f) us vs) :
  execOp a.eval o = callFunc f (us ++ args.map a.eval ++ vs) := by
 unfold execOp
 simp only [ho, resolve, hv]
 rfl
theorem exec_make {a : Act} {f : FuncId} {first caps : Array Operand} (ho : o.op = .makeFunc (.func f) first caps) : (execOp a.eval o).run C.P w = .ok (.value (.func (.func f) (first.map a.eval) (caps.map a.eval))) w := by
 unfold execOp
 simp [ho, Instr.makeFunc]
theorem map_list {xs : Array Operand} {e : Operand → Value} {l : List Operand} (h : xs.toList = l) : xs.map e = (l.map e).toArray := by
 rw [← h, ← Array.toList_map]
theorem sound_make2 {h : Heap} {f : FuncId} {first caps : Array Operand} (ho : o.op = .makeFunc (.func f) first caps) {k : OpR → Prop} (hk : aMkFn f first.toList caps.toList ρ k) :
  ∃ r, OpSound C nx o ρ r ∧ r.Ok ∧ (∀ q ∈ r.rds, getK h q.1 = some q.2) ∧ k r := by
 generalize h1 : first.toList = l1 at hk
 generalize h2 : caps.toList = l2 at hk
 unfold aMkFn at hk
 split at hk
 ·split at hk
  ·rename_i as has
   obtain ⟨hp, hk⟩ := cond_prop hk
   refine read_out hk ?_
   intro ι N w a henv hop
   refine ⟨_, exec_make ho, l2.map a.eval, ?_, prL_rel hp (evalL_rel has fun x v hx => hop x v (by rw [ho]; exact Array.mem_append.2 (.inr (Array.mem_toList_iff.1 (by rw [h2]; exact hx)))))⟩
   obtain ⟨e1, e2⟩ := fm0 f
   unfold fnVal fnFirst fnCaps
   rw [e1, e2, map_list h1, map_list h2]; rfl
  ·exact hk.elim
 ·rename_i x
  split at hk
  ·rename_i u hu
   refine read_out hk ?_
   intro ι N w a henv hop
   have hx := hop x u (by rw [ho]; exact Array.mem_append.2 (.inl (Array.mem_toList_iff.1 (by rw [h1]; simp)))) hu
   cases ha : u.isAgg with
   | true =>
    unfold AV.val at hx
    rw [ha] at hx
    obtain ⟨cs, e, hr⟩ := hx
    refine ⟨_, exec_make ho, cs, ?_, hr⟩
    obtain ⟨e1, e2⟩ := fm2 f
    show _ = [fnVal (4 * f + 2) cs]
    unfold fnVal fnFirst fnCaps
    rw [e1, e2, map_list h1, map_list h2, List.map_cons, e]; rfl
   | false =>
    have hr := val_one ha hx
    refine ⟨_, exec_make ho, [a.eval x], ?_, hr⟩
    obtain ⟨e1, e2⟩ := fm1 f
    show _ = [fnVal (4 * f + 1) [a.eval x]]
    unfold fnVal fnFirst fnCaps
    rw [e1, e2, map_list h1, map_list h2]; rfl
  ·exact hk.elim
 ·exact hk.elim
theorem sound_callF {h : Heap} {Γ : Tab} (hΓ : TabOk C Γ) {t : Nat} {args : Array Operand} {ts : Array TypeId} (ho : o.op = .call ⟨.value (.tmp t), args, ts⟩) {g : Nat} {caps : AV} (ht : ρ (.tmp t) = some (.fn g caps)) {k : OpR → Prop} (hk : aCallF Γ g caps args.toList ρ h nx k) :
  ∃ r, OpSound C nx o ρ r ∧ r.Ok ∧ (∀ q ∈ r.rds, getK h q.1 = some q.2) ∧ k r := by
 have fin : ∀ {F : Contract} {as : List AV}, getK Γ (g / 4) = some F → F as h nx k → (∀ (ι : Nat → Option Loc) (N : Nat → Prop) (w : World) (a : Act), (∀ x v, x ∈ o.op.operands → ρ x = some v → v.val ι N w (a.eval x)) → ∀ us, caps.rel ι N w us → valsRel ι N w as (fnFirst g us ++ args.map a.eval ++ fnCaps g us).toList) →
   ∃ r, OpSound C nx o ρ r ∧ r.Ok ∧ (∀ q ∈ r.rds, getK h q.1 = some q.2) ∧ k r := by
  intro F as hF hf hv
  obtain ⟨r, hc, hok, hr, hk⟩ := (hΓ _ F hF).ok _ _ _ _ hf
  refine ⟨r, ?_, hok, hr, hk⟩
  intro ι N w a hp hop
  obtain ⟨us, e, hus⟩ := val_fn (hop (.tmp t) _ (by rw [ho]; simp [Op.operands, Call.operands]) ht)
  have := hc ι N w _ hp (hv ι N w a hop us hus)
  unfold CallOuts at this
  unfold Outs
  rw [exec_callT ho e]
  generalize (callFunc (g / 4) (fnFirst g us ++ args.map a.eval ++ fnCaps g us).toList.toArray).run C.P w = z at this
  cases z with
  | ok n w' =>
   cases n with
   | value u => exact this
   | enter g as' => exact this
   | _ => exact this.elim
  | halt x w' => exact this.elim
 have hargs : ∀ {as : List AV} (ι : Nat → Option Loc) (N : Nat → Prop) (w : World) (a : Act), evalL ρ args.toList = some as → (∀ x v, x ∈ o.op.operands → ρ x = some v → v.val ι N w (a.eval x)) → valsRel ι N w as (args.toList.map a.eval) :=
  fun ι N w a has hop => evalL_rel has fun x v hx => hop x v (by rw [ho]; simp [Op.operands, Call.operands]; exact .inr (by simpa using hx))
 unfold aCallF at hk
 split at hk
 ·rename_i F as hF has
  cases hm : Nat.beq (g % 4) 0 with
  | true =>
   rw [hm] at hk
   replace hk : (match unprL caps with
    | some l => F (as ++ l) h nx k
    | none => False) := hk
   split at hk
   ·rename_i l hl
    refine fin hF hk fun ι N w a hop us hus => ?_
    have := valsRel_app (hargs ι N w a has hop) (unprL_rel hl hus)
    unfold fnFirst fnCaps
    rw [hm]
    simpa using this
   ·exact hk.elim
  | false =>
   rw [hm] at hk
   obtain ⟨hg, hk⟩ := cond_prop hk
   refine fin hF hk fun ι N w a hop us hus => ?_
   have := hargs ι N w a has hop
   unfold fnFirst fnCaps
   rw [hm]
   cases h1 : Nat.beq (g % 4) 1 with
   | true =>
    rw [h1] at hg
    have ha : caps.isAgg = false := by cases hc : caps.isAgg <;> rw [hc] at hg <;> first | rfl | cases hg
    have hl := hus.len
    rw [AV.size_plain ha] at hl
    obtain ⟨u, rfl⟩ := one_of_len hl
    refine ⟨u, args.toList.map a.eval, by simp, ?_, this⟩
    unfold AV.val; rw [ha]; exact hus
   | false =>
    rw [h1] at hg
    have ha : caps.isAgg = true := by cases hc : caps.isAgg <;> rw [hc] at hg <;> first | rfl | cases hg
    refine ⟨.agg us.toArray, args.toList.map a.eval, by simp, ?_, this⟩
    unfold AV.val; rw [ha]; exact ⟨us, rfl, hus⟩
 ·exact hk.elim
theorem fnK_sound {Γ : Tab} (hΓ : TabOk C Γ) {K : OpK} (hK : OpKSound C K) : OpKSound C (fnK Γ K) := by
 intro h nx o ρ k hk
 unfold fnK at hk
 split at hk
 ·rename_i f first caps ho
  exact sound_make2 ho hk
 ·rename_i t args ts ho
  split at hk
  ·rename_i g caps ht
   exact sound_callF hΓ ho ht hk
  ·exact hk.elim
 ·exact hK h nx o ρ k hk
end
end Go.Ab
/- Maps from int. -/
namespace Go.Ab
open Go Go.Chr Go.RowKit
def mGet (t : Tag) : List (Int × El t) → Int → El t → El t
 | [], _, z => z
 | p :: m, k, z => bif decide (p.1 = k) then p.2 else mGet t m k z
def mHas (t : Tag) : List (Int × El t) → Int → Bool
 | [], _ => false
 | p :: m, k => bif decide (p.1 = k) then true else mHas t m k
def mSet (t : Tag) : List (Int × El t) → Int → El t → List (Int × El t)
 | [], k, x => [(k, x)]
 | p :: m, k, x => bif decide (p.1 = k) then (k, x) :: m else p :: mSet t m k x
def Tag.isAgg : Tag → Bool
 | .nat _ => true
 | .arr _ _ => true
 | .nl => true
 | .pr _ _ => true
 | _ => false
def isIntD : Option TypeDesc → Bool
 | some (.int _) => true
 | _ => false
def aggV : Option Value → Bool
 | some (.agg _) => true
 | _ => false
def zeroVal (C : Ctx) (t : TypeId) : Option Value := match C.P.info? t with
 | some i => i.zero
 | none => none
def lookV (t : Tag) (m : List (Int × El t)) (k : Int) (z : El t) : Bool → AV
 | true => .t2 (.c (toCV t (mGet t m k z))) (.c (.bool (mHas t m k)))
 | false => .c (toCV t (mGet t m k z))
def aLookup (C : Ctx) (h : Heap) (t : TypeId) (x y : AV) (ok : Bool) (k : OpR → Prop) : Prop := match x, y with
 | .hd .mp b, .c (.int .i64 n) => match getK h b, C.P.underlying t with
  | some (.map tg m), some (.map kt e) => match zeroOf C e with
   | some c => deepC c fun c => match ofCV tg c with
    | some z => cond (isIntD (C.P.underlying kt) && (decide (aggV (zeroVal C e) = c.isAgg) && decide (c.isAgg = tg.isAgg))) (k ⟨lookV tg m n z ok, [], [], [(b, .map tg m)]⟩) False
    | none => False
   | none => False
  | _, _ => False
 | _, _ => False
def aMapSet (C : Ctx) (h : Heap) (t : TypeId) (x y u : AV) (k : OpR → Prop) : Prop := match x, y, u with
 | .hd .mp b, .c (.int .i64 n), .c c => match getK h b, C.P.underlying t with
  | some (.map tg m), some (.map kt _) => match ofCV tg c with
   | some v => cond (isIntD (C.P.underlying kt) && decide (c.isAgg = tg.isAgg)) (k ⟨.t0, [(b, some (.map tg (mSet tg m n v)))], [], [(b, .map tg m)]⟩) False
   | none => False
  | _, _ => False
 | _, _, _ => False
def aClear (C : Ctx) (h : Heap) (t : TypeId) (x : AV) (k : OpR → Prop) : Prop := match x with
 | .hd .mp b => match getK h b, C.P.underlying t with
  | some (.map tg m), some (.map _ _) => k ⟨.t0, [(b, some (.map tg []))], [], [(b, .map tg m)]⟩
  | _, _ => False
 | _ => False
def aMakeMap (C : Ctx) (nx : Nat) (t : TypeId) (k : OpR → Prop) : Prop := match C.P.underlying t with
 | some (.map _ e) => match zeroOf C e with
  | some c => match tagOf c with
   | some tg => k ⟨.hd .mp nx, [], [.map tg []], []⟩
   | none => False
  | none => False
 | _ => False
def isHint (ρ : Operand → Option AV) : Option Operand → Bool
 | none => true
 | some x => match ρ x with
  | some (.c (.int _ _)) => true
  | _ => false
def mapK (C : Ctx) (K : OpK) : OpK := fun h nx o ρ k => match o.op with
 | .makeMap t r => cond (isHint ρ r) (aMakeMap C nx t k) False
 | .lookup t x y ok => match ρ x, ρ y with
  | some (.hd .mp b), some v => aLookup C h t (.hd .mp b) v ok k
  | _, _ => K h nx o ρ k
 | .mapUpdate t x y z => match ρ x, ρ y, ρ z with
  | some a, some b, some c => aMapSet C h t a b c k
  | _, _, _ => False
 | .insert t x y z => match ρ x, ρ y, ρ z with
  | some a, some b, some c => aMapSet C h t a b c k
  | _, _, _ => False
 | .call ⟨.builtin .clear, args, ts⟩ => match args.toList, ts.toList with
  | [x], [t] => match ρ x with
   | some a => aClear C h t a k
   | none => False
  | _, _ => False
 | _ => K h nx o ρ k
section
variable {C : Ctx} {ι ι' : Nat → Option Loc} {N N' : Nat → Prop} {w w' : World} {nx : Nat} {o : Oper} {ρ : Operand → Option AV}
theorem run_getMap {P : Program} {r : Nat} {es : Array MapEntry} {clock : Nat} (hb : w.heap[r]? = some (.map es clock)) : (getObj r).run P w = .ok (.map es clock) w := by
 simp [getObj, Sem.run, hb]
theorem run_setMap {P : Program} {r : Nat} {es : Array MapEntry} {clock : Nat} (o : Obj) (hb : w.heap[r]? = some (.map es clock)) : (setObj r o).run P w = .ok () { w with heap := w.heap.setIfInBounds r o } := by
 simp [setObj, Sem.run, hb]
theorem Born.push : ∀ {es : List MapEntry} {lo c : Nat} {e : MapEntry}, Born es lo c → e.born = c → Born (es ++ [e]) lo (c + 1)
 | [], _, _, _, h, he => ⟨by rw [he]; exact h, by rw [he]; exact Nat.le_refl _⟩
 | _ :: _, _, _, _, ⟨h1, h2⟩, he => ⟨h1, h2.push he⟩
theorem Born.modify : ∀ {es : List MapEntry} {lo c j : Nat} {f : MapEntry → MapEntry}, (∀ e, (f e).born = e.born) → Born es lo c → Born (es.modify j f) lo c
 | [], _, _, j, _, _, h => by cases j <;> exact h
 | e :: es, _, _, 0, f, hf, ⟨h1, h2⟩ => by
  rw [List.modify_zero_cons]
  exact ⟨by rw [hf]; exact h1, by rw [hf]; exact h2⟩
 | e :: es, _, _, j + 1, f, hf, ⟨h1, h2⟩ => by
  rw [List.modify_succ_cons]
  exact ⟨h1, h2.modify hf⟩
theorem map_find {t : Tag} {kd : IntKind} {k : Int} : ∀ {m : List (Int × El t)} {es : List MapEntry} (i : Nat), mapRel N w t m es →
  (mHas t m k = false ∧ (∀ z, mGet t m k z = z) ∧ Instr.findNow (.int kd) (.int .i64 k) es i = some none ∧ ∀ (w' : World) (x : El t) (e : MapEntry), (∀ q, N q → w'.heap[q]? = w.heap[q]?) → e.key = .int .i64 k → asVal (toCV t x).isAgg ((toCV t x).rel N w') e.val → mapRel N w' t (mSet t m k x) (es ++ [e])) ∨
  (mHas t m k = true ∧ ∃ j v, Instr.findNow (.int kd) (.int .i64 k) es i = some (some (i + j, v)) ∧ (∃ e, es[j]? = some e ∧ e.key = .int .i64 k) ∧ (∀ z, asVal (toCV t (mGet t m k z)).isAgg ((toCV t (mGet t m k z)).rel N w) v) ∧
   ∀ (w' : World) (x : El t) (u : Value), (∀ q, N q → w'.heap[q]? = w.heap[q]?) → asVal (toCV t x).isAgg ((toCV t x).rel N w') u → mapRel N w' t (mSet t m k x) (es.modify j fun e => { e with key := .int .i64 k, val := u }))
 | [], es, i, h => by
  have h : es = [] := h
  subst h
  exact .inl ⟨rfl, fun _ => rfl, rfl, fun w' x e _ h1 h2 => ⟨e, [], rfl, h1, h2, rfl⟩⟩
 | p :: m, es, i, ⟨e, es', he, h1, h2, h3⟩ => by
  subst he
  cases hd : decide (p.1 = k) with
  | true =>
   have hk := of_decide_eq_true hd
   refine .inr ⟨by unfold mHas; rw [hd]; rfl, 0, e.val, ?_, ⟨e, rfl, by rw [h1, hk]⟩, fun z => ?_, fun w' x u hw hu => ?_⟩
   ·unfold Instr.findNow
    rw [h1, hk]
    simp [Instr.sameNow]
   ·unfold mGet; rw [hd]; exact h2
   ·unfold mSet; rw [hd, List.modify_zero_cons]
    exact ⟨_, es', rfl, rfl, hu, h3.mono (fun _ h => h) hw⟩
  | false =>
   have hk := of_decide_eq_false hd
   have hn : Instr.findNow (.int kd) (.int .i64 k) (e :: es') i = Instr.findNow (.int kd) (.int .i64 k) es' (i + 1) := by
    show (match Instr.sameNow (.int kd) (.int .i64 k) e.key with
     | some true => some (some (i, e.val))
     | some false => Instr.findNow (.int kd) (.int .i64 k) es' (i + 1)
     | none => none) = _
    rw [h1]
    have : (k == p.1) = false := by simpa using fun e => hk e.symm
    simp [Instr.sameNow, this]
   rcases map_find (i + 1) h3 with ⟨g1, g2, g3, g4⟩ | ⟨g1, j, v, g2, ⟨e0, g3, g4⟩, g5, g6⟩
   ·refine .inl ⟨by unfold mHas; rw [hd]; exact g1, fun z => by unfold mGet; rw [hd]; exact g2 z, hn.trans g3, fun w' x e2 hw a1 a2 => ?_⟩
    unfold mSet; rw [hd]
    exact ⟨e, es' ++ [e2], rfl, h1, h2.mono fun _ hx => hx.mono (fun _ h => h) hw, g4 w' x e2 hw a1 a2⟩
   ·refine .inr ⟨by unfold mHas; rw [hd]; exact g1, j + 1, v, by rw [hn, g2, Nat.add_assoc, Nat.add_comm 1 j], ⟨e0, by simpa using g3, g4⟩, fun z => by unfold mGet; rw [hd]; exact g5 z, fun w' x u hw hu => ?_⟩
    unfold mSet; rw [hd, List.modify_succ_cons]
    exact ⟨e, _, rfl, h1, h2.mono fun _ hx => hx.mono (fun _ h => h) hw, g6 w' x u hw hu⟩
theorem isIntD_some {d : Option TypeDesc} (h : isIntD d = true) : ∃ kd, d = some (.int kd) := by
 unfold isIntD at h
 split at h
 ·exact ⟨_, rfl⟩
 ·cases h
theorem run_checkInt {P : Program} {kt : TypeId} {kd : IntKind} (h : P.underlying kt = some (.int kd)) (e : Bool) (k : Int) : (Instr.checkKey e 10000 kt (.int .i64 k)).run P w = .ok () w := by
 unfold Instr.checkKey
 simp [run_underlying h]
theorem run_findInt {P : Program} {kt : TypeId} {kd : IntKind} (h : P.underlying kt = some (.int kd)) {v : Value} {es : List MapEntry} {a : Option (Nat × Value)} (hf : Instr.findNow (.int kd) v es 0 = some a) : (Instr.findKey kt v es).run P w = .ok a w := by
 unfold Instr.findKey
 simp [run_underlying h, hf]
theorem isAgg_tag {t : Tag} (x : El t) : (toCV t x).isAgg = t.isAgg := by cases t <;> rfl
theorem zero_asVal {e : TypeId} {c : CV} {t : Tag} {z : El t} (h : zeroOf C e = some c) (hz : ofCV t c = some z) (ha : aggV (zeroVal C e) = c.isAgg) (ht : c.isAgg = t.isAgg) :
  ∃ v, (∀ w : World, (zeroValue e).run C.P w = .ok v w) ∧ asVal (toCV t z).isAgg ((toCV t z).rel N w) v := by
 obtain ⟨i, v, hi, hv, hr⟩ := zeroOf_rel (N := N) (w := w) h
 refine ⟨v, fun w => by simp [zeroValue, typeInfo, hi, hv], ?_⟩
 have hr := (toCV_rel t z _).2 (ofCV_rel hz hr)
 have hzv : zeroVal C e = some v := by unfold zeroVal; rw [hi]; exact hv
 rw [isAgg_tag, ← ht, ← ha, hzv]
 cases v with
 | agg cs => exact ⟨cs.toList, by simp, hr⟩
 | _ => exact hr
theorem sound_lookup {h : Heap} {t : TypeId} {x y : Operand} {ok : Bool} (ho : o.op = .lookup t x y ok) {a v : AV} (hx : ρ x = some a) (hy : ρ y = some v) {k : OpR → Prop} (hk : aLookup C h t a v ok k) :
  ∃ r, OpSound C nx o ρ r ∧ r.Ok ∧ (∀ q ∈ r.rds, getK h q.1 = some q.2) ∧ k r := by
 unfold aLookup at hk
 split at hk
 ·rename_i b n
  split at hk
  ·rename_i tg m kt e hb hu
   split at hk
   ·rename_i c hzo
    rw [deepC_eq] at hk
    split at hk
    ·rename_i z hz
     obtain ⟨hc, hk⟩ := cond_prop hk
     simp only [Bool.and_eq_true, decide_eq_true_eq] at hc
     obtain ⟨kd, hkd⟩ := isIntD_some hc.1
     refine ⟨_, OpSound.of_read rfl rfl ?_, OpR.ok_read rfl, fun q hq => by simp at hq; subst hq; exact hb, hk⟩
     intro ι N w a hp hop
     obtain ⟨L, h1, _, h2⟩ := hop x _ (by rw [ho]; simp [Op.operands]) hx
     obtain ⟨L', k1, ⟨_, es, clock, k2, k3, _⟩, _⟩ := hp.rds (b, .map tg m) (by simp)
     rw [h1] at k1; injection k1 with k1; subst k1
     injection h2 with h2 _
     obtain ⟨ey, _⟩ := val_int (hop y _ (by rw [ho]; simp [Op.operands]) hy)
     obtain ⟨zv, hzr, hza⟩ := zero_asVal (N := N) (w := w) hzo hz hc.2.1 hc.2.2
     have fin : ∀ (u : Value) (f : Bool), (execOp a.eval o).run C.P w = .ok (.value (if ok = true then .tuple #[u, .bool f] else u)) w → f = mHas tg m n → asVal (toCV tg (mGet tg m n z)).isAgg ((toCV tg (mGet tg m n z)).rel N w) u →
       ∃ v, (execOp a.eval o).run C.P w = .ok (.value v) w ∧ (lookV tg m n z ok).val ι N w v := by
      intro u f hr hf hu
      refine ⟨_, hr, ?_⟩
      cases ok with
      | true => exact ⟨u, .bool f, rfl, hu, by rw [hf]; rfl⟩
      | false => exact hu
     rcases map_find (kd := kd) (k := n) 0 k3 with ⟨g1, g2, g3, _⟩ | ⟨g1, j, u, g2, _, g5, _⟩
     ·refine fin zv false ?_ g1.symm (by rw [g2]; exact hza)
      unfold execOp
      simp only [ho, h2, ey]
      simp [Instr.lookup, run_underlying hu, run_getMap k2, run_checkInt hkd, run_findInt hkd g3, hzr]
     ·refine fin u true ?_ g1.symm (g5 z)
      unfold execOp
      simp only [ho, h2, ey]
      simp [Instr.lookup, run_underlying hu, run_getMap k2, run_checkInt hkd, run_findInt hkd g2]
    ·exact hk.elim
   ·exact hk.elim
  ·exact hk.elim
 ·exact hk.elim
theorem Post.map1 {b : Nat} {t : Tag} {m m' : List (Int × El t)} {es : Array MapEntry} {clock : Nat} {L : Loc} (hp : Pre C ι N w nx ⟨.t0, [(b, some (.map t m'))], [], [(b, .map t m)]⟩) (hL : ι b = some L) (hph : L.ph = false) (hb : L.blk < w.heap.size)
  (hm : ∀ w' : World, (∀ q, N q → w'.heap[q]? = w.heap[q]?) → mapRel N w' t m' es.toList) (hc : Born es.toList 0 clock) :
  Post ι N w ι N { w with heap := w.heap.setIfInBounds L.blk (.map es clock) } nx ⟨.t0, [(b, some (.map t m'))], [], [(b, .map t m)]⟩ := by
 have hnN : ¬ N L.blk := by
  obtain ⟨L2, k1, _, k3⟩ := hp.rds (b, .map t m) (by simp)
  rw [hL] at k1; injection k1 with k1; subst k1
  exact k3 hph
 have hkeep : ∀ k, N k → ({ w with heap := w.heap.setIfInBounds L.blk (.map es clock) } : World).heap[k]? = w.heap[k]? := fun k hk => by
  have : L.blk ≠ k := fun e => hnN (e ▸ hk)
  simp [Array.getElem?_setIfInBounds, this]
 refine ⟨fun _ _ h => h, fun _ _ h => .inl h, fun _ h => h, fun _ h => .inl h, fun k hk => by simpa using hp.env.1 k hk, ⟨rfl, rfl, rfl, by simp, fun k _ hn => ?_⟩, ?_, fun j blk h => by simp at h, fun i j _ _ hi => by simp at hi⟩
 ·have : L.blk ≠ k := fun e => hn ⟨(b, some (.map t m')), by simp, L, hL, hph, e.symm⟩
  simp [Array.getElem?_setIfInBounds, this]
 ·intro b' blk hbm
  simp at hbm
  obtain ⟨rfl, rfl⟩ := hbm
  exact ⟨L, hL, hph, es, clock, by simp [Array.getElem?_setIfInBounds, hb], hm _ hkeep, hc⟩
theorem ok_map1 {b : Nat} {x y : Blk'} : (OpR.mk .t0 [(b, some x)] [] [(b, y)]).Ok := ⟨fun q hq => ⟨(b, y), by simp, by simp at hq; rw [hq]⟩, by simp⟩
theorem sound_mapSet {h : Heap} {t : TypeId} {x y z : Operand} (ho : o.op = .mapUpdate t x y z ∨ o.op = .insert t x y z) {a v u : AV} (hx : ρ x = some a) (hy : ρ y = some v) (hz : ρ z = some u) {k : OpR → Prop} (hk : aMapSet C h t a v u k) :
  ∃ r, OpSound C nx o ρ r ∧ r.Ok ∧ (∀ q ∈ r.rds, getK h q.1 = some q.2) ∧ k r := by
 have mx : x ∈ o.op.operands := by rcases ho with ho | ho <;> (rw [ho]; simp [Op.operands])
 have my : y ∈ o.op.operands := by rcases ho with ho | ho <;> (rw [ho]; simp [Op.operands])
 have mz : z ∈ o.op.operands := by rcases ho with ho | ho <;> (rw [ho]; simp [Op.operands])
 unfold aMapSet at hk
 split at hk
 ·rename_i b n c
  split at hk
  ·rename_i tg m kt e hb hu
   split at hk
   ·rename_i x0 hof
    obtain ⟨hc, hk⟩ := cond_prop hk
    simp only [Bool.and_eq_true, decide_eq_true_eq] at hc
    obtain ⟨kd, hkd⟩ := isIntD_some hc.1
    refine ⟨_, ?_, ok_map1, fun q hq => by simp at hq; subst hq; exact hb, hk⟩
    intro ι N w a hp hop
    obtain ⟨L, h1, hph, h2⟩ := hop x _ mx hx
    obtain ⟨L', k1, ⟨_, es, clock, k2, k3, k4⟩, _⟩ := hp.rds (b, .map tg m) (by simp)
    rw [h1] at k1; injection k1 with k1; subst k1
    injection h2 with h2 _
    obtain ⟨ey, _⟩ := val_int (hop y _ my hy)
    have hzv : asVal (toCV tg x0).isAgg ((toCV tg x0).rel N w) (a.eval z) := by
     rw [isAgg_tag, ← hc.2]
     exact asVal.mono (fun q hq => (toCV_rel tg x0 q).2 (ofCV_rel hof hq)) (hop z _ mz hz)
    have hzw : ∀ w' : World, (∀ q, N q → w'.heap[q]? = w.heap[q]?) → asVal (toCV tg x0).isAgg ((toCV tg x0).rel N w') (a.eval z) := fun w' hw => hzv.mono fun _ hx => hx.mono (fun _ h => h) hw
    have hlt : L.blk < w.heap.size := (Array.getElem?_eq_some_iff.1 k2).1
    rcases map_find (kd := kd) (k := n) 0 k3 with ⟨_, _, g3, g4⟩ | ⟨_, j, u, g2, ⟨e0, g3, g3k⟩, _, g6⟩
    ·refine Outs.skip (w' := { w with heap := w.heap.setIfInBounds L.blk (.map (es.push { key := .int .i64 n, val := a.eval z, born := clock }) (clock + 1)) }) ?_ ⟨ι, N, Post.map1 hp h1 hph hlt (fun w' hw => ?_) ?_, rfl⟩
     ·unfold execOp
      rcases ho with ho | ho <;> (simp only [ho, h2, ey]; simp [Instr.mapUpdate, run_underlying hu, run_getMap k2, run_checkInt hkd, run_findInt hkd g3, run_setMap _ k2])
     ·rw [Array.toList_push]; exact g4 w' x0 _ hw rfl (hzw w' hw)
     ·rw [Array.toList_push]; exact k4.push rfl
    ·have g2 : Instr.findNow (.int kd) (.int .i64 n) es.toList 0 = some (some (j, u)) := by simpa using g2
     have hj : es[j]? = some e0 := by simpa using g3
     refine Outs.skip (w' := { w with heap := w.heap.setIfInBounds L.blk (.map (es.modify j fun e => { e with key := .int .i64 n, val := a.eval z }) clock) }) ?_ ⟨ι, N, Post.map1 hp h1 hph hlt (fun w' hw => ?_) ?_, rfl⟩
     ·unfold execOp
      rcases ho with ho | ho <;> (simp only [ho, h2, ey]; simp [Instr.mapUpdate, run_underlying hu, run_getMap k2, run_checkInt hkd, run_findInt hkd g2, hj, g3k, Instr.keyThatStays, Instr.sameBits, run_setMap _ k2])
     ·rw [Array.toList_modify]; exact g6 w' x0 _ hw (hzw w' hw)
     ·rw [Array.toList_modify]; exact k4.modify fun _ => rfl
   ·exact hk.elim
  ·exact hk.elim
 ·exact hk.elim
theorem sound_clear {h : Heap} {t : TypeId} {x : Operand} (ho : o.op = .call { callee := .builtin .clear, args := #[x], argTypes := #[t] }) {a : AV} (hx : ρ x = some a) {k : OpR → Prop} (hk : aClear C h t a k) :
  ∃ r, OpSound C nx o ρ r ∧ r.Ok ∧ (∀ q ∈ r.rds, getK h q.1 = some q.2) ∧ k r := by
 unfold aClear at hk
 split at hk
 ·rename_i b
  split at hk
  ·rename_i tg m kt e hb hu
   refine ⟨_, ?_, ok_map1, fun q hq => by simp at hq; subst hq; exact hb, hk⟩
   intro ι N w a hp hop
   obtain ⟨L, h1, hph, h2⟩ := hop x _ (by rw [ho]; simp [Op.operands, Call.operands]) hx
   obtain ⟨L', k1, ⟨_, es, clock, k2, k3, k4⟩, _⟩ := hp.rds (b, .map tg m) (by simp)
   rw [h1] at k1; injection k1 with k1; subst k1
   injection h2 with h2 _
   refine Outs.value (v := .tuple #[]) (w' := { w with heap := w.heap.setIfInBounds L.blk (.map #[] clock) }) (run_bi (b := .clear) (c := { callee := .builtin .clear, args := #[x], argTypes := #[t] }) ho ?_) ⟨ι, N, Post.map1 hp h1 hph (Array.getElem?_eq_some_iff.1 k2).1 (fun w' hw => rfl) (Nat.zero_le _), rfl⟩
   simp [builtin, Builtin.clear_, h2, run_underlying hu, run_getMap k2, run_setMap _ k2]
  ·exact hk.elim
 ·exact hk.elim
theorem sound_makeMap {h : Heap} {t : TypeId} {r : Option Operand} (ho : o.op = .makeMap t r) (hr : isHint ρ r = true) {k : OpR → Prop} (hk : aMakeMap C nx t k) :
  ∃ r, OpSound C nx o ρ r ∧ r.Ok ∧ (∀ q ∈ r.rds, getK h q.1 = some q.2) ∧ k r := by
 unfold aMakeMap at hk
 split at hk
 ·rename_i kt e hu
  split at hk
  ·rename_i c _
   split at hk
   ·rename_i tg _
    refine ⟨_, ?_, OpR.ok_read rfl, fun q hq => by simp at hq, hk⟩
    intro ι N w a hp hop
    have hfree : ι nx = none := by simpa using hp.fresh 0 (by simp)
    have hnew : (w.alloc (.map #[] 0)).heap[w.heap.size]? = some (.map #[] 0) := heap_alloc_new w (.map #[] 0)
    have hold : ∀ k, k < w.heap.size → (w.alloc (.map #[] 0)).heap[k]? = w.heap[k]? := fun k hk => Below.heap_alloc w _ k hk
    refine Outs.value (v := .map (some w.heap.size)) (w' := w.alloc (.map #[] 0)) ?_ ⟨addι ι nx ⟨w.heap.size, 0, 0, 0, false⟩, N, ⟨addι_old hfree, ?_, fun _ h => h, fun _ h => .inl h, fun k hk => ?_, ⟨rfl, rfl, rfl, by simp, fun k hk _ => hold k hk⟩, fun b blk h => by simp at h, ?_, ?_⟩, ⟨w.heap.size, 0, 0, 0, false⟩, by simp [addι], rfl, rfl⟩
    ·unfold execOp
     simp only [ho]
     cases r with
     | none => rfl
     | some x =>
      have hr : (match ρ x with
       | some (.c (.int _ _)) => true
       | _ => false) = true := hr
      split at hr
      ·rename_i kk n hx
       obtain ⟨e1, _⟩ := val_int (hop x _ (by rw [ho]; simp [Op.operands]) hx)
       simp [Instr.makeMap, e1, run_underlying hu, asInt, asIntOf]
      ·cases hr
    ·intro b L' h
     unfold addι at h
     split at h
     ·rename_i e; subst e; exact .inr ⟨Nat.le_refl _, by simp⟩
     ·exact .inl h
    ·have := hp.env.1 k hk
     simp; omega
    ·intro j blk h
     cases j with
     | zero =>
      simp at h; subst h
      exact ⟨⟨w.heap.size, 0, 0, 0, false⟩, by simp [addι], ⟨rfl, #[], 0, hnew, rfl, Nat.le_refl _⟩, fun _ => ⟨fun hN => Nat.lt_irrefl _ (hp.env.1 _ hN), .inl (Nat.le_refl _)⟩⟩
     | succ j => simp at h
    ·intro i j Li Lj hi hj hne
     simp at hi hj; omega
   ·exact hk.elim
  ·exact hk.elim
 ·exact hk.elim
theorem one_arg {α : Type} {args : Array α} {x : α} (h : args.toList = [x]) : args = #[x] := by rw [← Array.toArray_toList (xs := args), h]
theorem mapK_sound {K : OpK} (hK : OpKSound C K) : OpKSound C (mapK C K) := by
 intro h nx o ρ k hk
 unfold mapK at hk
 split at hk
 ·rename_i t r ho
  obtain ⟨h1, hk⟩ := cond_prop hk
  exact sound_makeMap ho h1 hk
 ·rename_i t x y ok ho
  split at hk
  ·rename_i b v hx hy; exact sound_lookup ho hx hy hk
  ·exact hK h nx o ρ k hk
 ·rename_i t x y z ho
  split at hk
  ·rename_i a b c hx hy hz; exact sound_mapSet (.inl ho) hx hy hz hk
  ·exact hk.elim
 ·rename_i t x y z ho
  split at hk
  ·rename_i a b c hx hy hz; exact sound_mapSet (.inr ho) hx hy hz hk
  ·exact hk.elim
 ·rename_i args ts ho
  split at hk
  ·rename_i x t h1 h2
   have e1 := one_arg h1
   have e2 := one_arg h2
   subst e1; subst e2
   split at hk
   ·rename_i a hx; exact sound_clear ho hx hk
   ·exact hk.elim
  ·exact hk.elim
 ·exact hK h nx o ρ k hk
end
def lowBase (m : Nat) : Base → Bool
 | .l n => Nat.blt n m
 | .g _ => true
def lowV (m : Nat) : AV → Bool
 | .ptr b _ _ _ => lowBase m b
 | .own b _ _ => Nat.blt b m
 | .sub b _ _ _ => Nat.blt b m
 | .inn b _ _ _ _ _ => lowBase m b
 | .pr a b => lowV m a && lowV m b
 | .t2 a b => lowV m a && lowV m b
 | .t3 a b e => lowV m a && (lowV m b && lowV m e)
 | .fn _ caps => lowV m caps
 | .hd _ b => Nat.blt b m
 | _ => true
def lowL (m : Nat) : List AV → Bool
 | [] => true
 | a :: l => lowV m a && lowL m l
def lowBd (m : Nat) : Body → Bool
 | .els l => lowL m l
 | _ => true
def lowBk (m : Nat) : Blk' → Bool
 | .cells _ _ b => lowBd m b
 | .map _ _ => true
 | .opt _ _ _ b => lowBd m b
def lowU (m : Nat) : List (Nat × Option Blk') → Bool
 | [] => true
 | (_, some b) :: l => lowBk m b && lowU m l
 | (_, none) :: _ => false
def deadB : Blk' := .opt false 0 0 (.els [])
def deadL : List Blk' → List Blk'
 | [] => []
 | _ :: l => deadB :: deadL l
def frzV (h : Heap) : AV → Option AV
 | .t2 a b => match cloD 3 h a, cloD 3 h b with
  | some (x, _), some (y, _) => some (.t2 (.c x) (.c y))
  | _, _ => none
 | a => match cloD 3 h a with
  | some (x, _) => some (.c x)
  | none => none
def frzR (nx : Nat) (r : OpR) : Option OpR := match r with
 | ⟨v, u, n, rd⟩ => bif lowU nx u then (match frzV (heapL nx n) v with
  | some v' => some ⟨v', u, deadL n, rd⟩
  | none => none) else none
def frzAt : Nat := 1000000
def noC : Contract := fun _ _ _ _ => False
def frzK (nx : Nat) (k : OpR → Prop) (r : OpR) : Prop := match frzR nx r with
 | some r' => k r'
 | none => False
def bornK (Γ : Tab) (K : OpK) : OpK := fun h nx o ρ k => match o.dst with
 | some t => match getK Γ (frzAt + t) with
  | some _ => K h nx o ρ (frzK nx k)
  | none => K h nx o ρ k
 | none => K h nx o ρ k
section
variable {C : Ctx} {ι ι' : Nat → Option Loc} {N N' : Nat → Prop} {w w' : World} {nx m : Nat} {o : Oper} {ρ : Operand → Option AV}
theorem noC_ok (f : FuncId) : ContractOk C f noC := ⟨fun _ _ _ _ h => h.elim⟩
theorem bltN {a b : Nat} (h : Nat.blt a b = true) : a < b := bleN h
theorem lowBase_ok : ∀ {b : Base}, lowBase m b = true → b.bnd m
 | .l _, h => bltN h
 | .g _, _ => trivial
theorem lowV_ok : ∀ {a : AV}, lowV m a = true → a.bnd m
 | .c _, _ => trivial
 | .ptr _ _ _ _, h => lowBase_ok h
 | .cp _ _ _, _ => trivial
 | .own _ _ _, h => bltN h
 | .sub _ _ _ _, h => bltN h
 | .inn _ _ _ _ _ _, h => lowBase_ok h
 | .pr a b, h => by
  unfold lowV at h
  simp only [Bool.and_eq_true] at h
  exact ⟨lowV_ok h.1, lowV_ok h.2⟩
 | .t0, _ => trivial
 | .t2 a b, h => by
  unfold lowV at h
  simp only [Bool.and_eq_true] at h
  exact ⟨lowV_ok h.1, lowV_ok h.2⟩
 | .t3 a b e, h => by
  unfold lowV at h
  simp only [Bool.and_eq_true] at h
  exact ⟨lowV_ok h.1, lowV_ok h.2.1, lowV_ok h.2.2⟩
 | .fn _ caps, h => lowV_ok (a := caps) h
 | .hd _ _, h => bltN h
theorem lowL_ok : ∀ {l : List AV}, lowL m l = true → bndL m l
 | [], _ => trivial
 | a :: l, h => by
  unfold lowL at h
  simp only [Bool.and_eq_true] at h
  exact ⟨lowV_ok h.1, lowL_ok h.2⟩
theorem lowBd_ok : ∀ {b : Body}, lowBd m b = true → b.bnd m
 | .ints _ _, _ => trivial
 | .rows _ _, _ => trivial
 | .els _, h => lowL_ok h
theorem lowBk_ok : ∀ {b : Blk'}, lowBk m b = true → b.bnd m
 | .cells _ _ _, h => lowBd_ok h
 | .map _ _, _ => trivial
 | .opt _ _ _ _, h => lowBd_ok h
theorem lowU_ok : ∀ {u : List (Nat × Option Blk')}, lowU m u = true → ∀ p ∈ u, ∃ b, p.2 = some b ∧ b.bnd m
 | (_, some b) :: l, h, p, hp => by
  unfold lowU at h
  simp only [Bool.and_eq_true] at h
  rcases List.mem_cons.1 hp with rfl | hp
  ·exact ⟨b, rfl, lowBk_ok h.1⟩
  ·exact lowU_ok h.2 p hp
 | (_, none) :: _, h, _, _ => by cases h
theorem deadL_len : ∀ l : List Blk', (deadL l).length = l.length
 | [] => rfl
 | _ :: l => by unfold deadL; rw [List.length_cons, List.length_cons, deadL_len l]
theorem deadL_get : ∀ {l : List Blk'} {j : Nat} {b : Blk'}, (deadL l)[j]? = some b → b = deadB
 | [], _, _, h => by simp [deadL] at h
 | _ :: l, 0, _, h => by simp [deadL] at h; exact h.symm
 | _ :: l, j + 1, _, h => deadL_get (l := l) (by simpa [deadL] using h)
theorem frzV_val {h : Heap} {a b : AV} {v : Value} (hf : frzV h a = some b) (hv : a.val ι N w v) (hN : ∀ k, N k → N' k) (hh : ∀ p : Nat × Blk', getK h p.1 = some p.2 → ∃ L, ι p.1 = some L ∧ BlkRel ι N w L p.2 ∧ (L.ph = false → N' L.blk)) : b.val ι' N' w v := by
 have key : ∀ {x : AV} {y : CV} {rd : List (Nat × Blk')} {u : Value}, cloD 3 h x = some (y, rd) → x.val ι N w u → (AV.c y).val ι' N' w u := fun {x y rd u} e hu => by
  have g : (AV.c y).val ι N' w u := cloD_val hN e hu fun p hp => hh p ((cloD_ok h 3 _ _ _ e).1 p hp)
  exact g
 unfold frzV at hf
 split at hf
 ·rename_i x y
  split at hf
  ·rename_i x' r1 y' r2 h1 h2
   injection hf with hf; subst hf
   obtain ⟨v1, v2, e, g1, g2⟩ := hv
   exact ⟨v1, v2, e, key h1 g1, key h2 g2⟩
  ·cases hf
 ·split at hf
  ·rename_i x r hx
   injection hf with hf; subst hf
   exact key hx hv
  ·cases hf
theorem frz_sound {r r' : OpR} (hf : frzR nx r = some r') (hs : OpSound C nx o ρ r) : OpSound C nx o ρ r' ∧ r'.upd = r.upd ∧ r'.rds = r.rds := by
 obtain ⟨v, u, n, rd⟩ := r
 unfold frzR at hf
 dsimp only at hf
 cases hu : lowU nx u with
 | false => rw [hu] at hf; cases hf
 | true =>
 rw [hu] at hf
 simp only [cond_true] at hf
 split at hf
 ·rename_i v' hv'
  injection hf with hf; subst hf
  refine ⟨?_, rfl, rfl⟩
  have hlow := lowU_ok hu
  intro ι N w a hp hop
  have hpre : Pre C ι N w nx ⟨v, u, n, rd⟩ := ⟨hp.env, hp.rds, hp.apart, fun j hj => hp.fresh j (by rw [deadL_len]; exact hj)⟩
  refine (hs ι N w a hpre hop).mono ?_
  rintro x w' ⟨ι', N', hP, hv⟩
  let ι2 : Nat → Option Loc := fun b => if nx ≤ b ∧ b < nx + n.length then some ⟨0, 0, 0, 0, true⟩ else ι b
  let N2 : Nat → Prop := fun k => N' k ∨ ∃ j blk L, n[j]? = some blk ∧ ι' (nx + j) = some L ∧ L.ph = false ∧ k = L.blk
  have hN2 : ∀ k, N' k → N2 k := fun k h => .inl h
  have hι2 : ∀ b L, ι b = some L → ι2 b = some L := by
   intro b L h
   show (if nx ≤ b ∧ b < nx + n.length then some _ else ι b) = _
   rw [if_neg]
   ·exact h
   ·rintro ⟨h1, h2⟩
    have := hpre.fresh (b - nx) (by show b - nx < n.length; omega)
    rw [show nx + (b - nx) = b by omega] at this
    rw [this] at h; cases h
  have hlo : ∀ b L, b < nx → ι' b = some L → ι2 b = some L := by
   intro b L hb h
   rcases hP.inew b L h with h | ⟨h, _⟩
   ·exact hι2 b L h
   ·omega
  have hnew : ∀ j blk L, n[j]? = some blk → ι' (nx + j) = some L → BlkRel ι' N' w' L blk ∧ (L.ph = false → w.heap.size ≤ L.blk) := by
   intro j blk L h1 h2
   obtain ⟨L', k1, k2, k3⟩ := hP.news j blk h1
   rw [h2] at k1; injection k1 with k1; subst k1
   refine ⟨k2, fun hph => ?_⟩
   rcases (k3 hph).2 with h | ⟨b, _, hb, _⟩
   ·exact h
   ·obtain ⟨x, hx, _⟩ := hlow _ hb
    cases hx
  refine ⟨ι2, N2, ⟨hι2, ?_, fun k h => .inl (hP.nold k h), ?_, ?_, hP.frame, ?_, ?_, ?_⟩, ?_⟩
  ·intro b L h
   have h : (if nx ≤ b ∧ b < nx + n.length then some _ else ι b) = some L := h
   split at h
   ·rename_i hb; exact .inr ⟨hb.1, by show b < nx + (deadL n).length; rw [deadL_len]; exact hb.2⟩
   ·exact .inl h
  ·rintro k (h | ⟨j, blk, L, h1, h2, h3, rfl⟩)
   ·exact hP.nnew k h
   ·exact .inr ((hnew j blk L h1 h2).2 h3)
  ·rintro k (h | ⟨j, blk, L, h1, h2, h3, rfl⟩)
   ·exact hP.nsz k h
   ·exact (hnew j blk L h1 h2).1.lt h3
  ·intro b blk hm
   obtain ⟨L, h1, h2⟩ := hP.upds b blk hm
   obtain ⟨b', e, hb⟩ := hlow _ hm
   injection e with e; subst e
   exact ⟨L, h1, (Blk'.rel_bnd (m := nx) (fun b L hb h => hlo b L hb h) hb h2).mono (fun _ _ h => h) hN2 (fun _ _ => rfl) (fun _ => rfl)⟩
  ·intro j blk h
   have e := deadL_get h
   subst e
   have hj : j < n.length := by
    have := (List.getElem?_eq_some_iff.1 h).1
    rwa [deadL_len] at this
   refine ⟨⟨0, 0, 0, 0, true⟩, ?_, .inl ⟨rfl, rfl⟩, fun h => by cases h⟩
   show (if nx ≤ nx + j ∧ nx + j < nx + n.length then some _ else ι (nx + j)) = _
   rw [if_pos ⟨by omega, by omega⟩]
  ·intro i j Li Lj hi hj hne h1 h2 p1
   have hi : i < n.length := by have : i < (deadL n).length := hi; rwa [deadL_len] at this
   have h1 : (if nx ≤ nx + i ∧ nx + i < nx + n.length then some _ else ι (nx + i)) = some Li := h1
   rw [if_pos ⟨by omega, by omega⟩] at h1
   injection h1 with h1; subst h1; cases p1
  ·refine frzV_val hv' hv hN2 ?_
   rintro ⟨b, blk⟩ hb
   obtain ⟨h1, h2⟩ := heapL_get hb
   obtain ⟨L, k1, k2, _⟩ := hP.news (b - nx) blk h2
   have e : nx + (b - nx) = b := by omega
   refine ⟨L, by rw [e] at k1; exact k1, k2, fun hph => .inr ⟨b - nx, blk, L, h2, k1, hph, rfl⟩⟩
 ·cases hf
theorem bornK_sound {Γ : Tab} {K : OpK} (hK : OpKSound C K) : OpKSound C (bornK Γ K) := by
 intro h nx o ρ k hk
 unfold bornK at hk
 split at hk
 ·split at hk
  ·obtain ⟨r, h1, h2, h3, h4⟩ := hK _ _ _ _ _ hk
   unfold frzK at h4
   split at h4
   ·rename_i r' hr
    obtain ⟨g1, g2, g3⟩ := frz_sound hr h1
    exact ⟨r', g1, ⟨by rw [g2, g3]; exact h2.sub, by rw [g2]; exact h2.nodup⟩, by rw [g3]; exact h3, h4⟩
   ·exact h4.elim
  ·exact hK _ _ _ _ _ hk
 ·exact hK _ _ _ _ _ hk
end
def aArr (C : Ctx) (t : TypeId) (v : AV) (k : OpR → Prop) : Prop := match C.P.underlying t with
 | some (.array n _) => match v with
  | .c (.ints kd l) => cond (Nat.ble 1 n && Nat.ble n l.length) (k ⟨.cp (.ints kd l) 0 0, [], [], []⟩) False
  | .own b 1 m => cond (Nat.ble 1 n && Nat.ble n m) (k ⟨.ptr (.l b) 0 1 0, [], [], []⟩) False
  | .sub b 1 i m => cond (Nat.ble 1 n && Nat.ble n m) (k ⟨.ptr (.l b) i 1 0, [], [], []⟩) False
  | .inn b i esz off 1 m => cond (Nat.ble 1 n && Nat.ble n m) (k ⟨.ptr b i esz off, [], [], []⟩) False
  | _ => False
 | _ => False
def isRow (C : Ctx) (t : TypeId) (n : Nat) : Bool := match kindOf C t with
 | some (true, m) => Nat.beq m n
 | _ => false
def arrL (C : Ctx) (t : TypeId) : Option Nat := match C.P.underlying t with
 | some (.array n _) => bif isRow C t n then some n else none
 | _ => none
def intsAt (h : Heap) (b : Nat) : Option (TypeId × IntKind × List Int) := match getK h b with
 | some (.cells ty 1 (.ints kd l)) => some (ty, kd, l)
 | _ => none
def arrK (C : Ctx) (K : OpK) : OpK := fun h nx o ρ k => match o.op with
 | .sliceToArrayPointer t x => match ρ x with
  | some v => aArr C t v k
  | none => False
 | .load t x => match arrL C t, ρ x with
  | some n, some (.ptr (.l b) i 1 0) => match intsAt h b with
   | some (ty, kd, l) => cond (Nat.ble (i + n) l.length) (k ⟨.c (arrC kd n ((l.drop i).take n)), [], [], [(b, .cells ty 1 (.ints kd l))]⟩) False
   | none => K h nx o ρ k
  | some n, some (.cp (.ints kd l) i 0) => cond (Nat.ble (i + n) l.length) (k ⟨.c (arrC kd n ((l.drop i).take n)), [], [], []⟩) False
  | _, _ => K h nx o ρ k
 | _ => K h nx o ρ k
section
variable {C : Ctx} {ι : Nat → Option Loc} {N : Nat → Prop} {w : World} {nx : Nat} {o : Oper} {ρ : Operand → Option AV}
theorem arrC_agg (k : IntKind) (n : Nat) (l : List Int) : (arrC k n l).isAgg = true := by
 unfold arrC
 split
 ·cases Nat.beq n 4 <;> rfl
 ·rfl
theorem arrL_some {t : TypeId} {n : Nat} (h : arrL C t = some n) : kindOf C t = some (true, n) := by
 unfold arrL at h
 split at h
 ·rename_i m e hu
  cases hr : isRow C t m with
  | false => rw [hr] at h; cases h
  | true =>
   rw [hr] at h; injection h with h; subst h
   unfold isRow at hr
   split at hr
   ·rename_i q hq; rw [hq, beqN hr]
   ·cases hr
 ·cases h
theorem run_arrayAt {P : Program} {t e : TypeId} {n m c : Nat} {a : Option Addr} (hu : P.underlying t = some (.array n e)) (h : n ≤ m) : (Instr.arrayAt t (.slice a m c)).run P w = .ok (.pointer a) w := by
 have : ¬ (m < n) := by omega
 simp [Instr.arrayAt, run_underlying hu, this]
theorem sound_arr {h : Heap} {t : TypeId} {x : Operand} (ho : o.op = .sliceToArrayPointer t x) {v : AV} (hx : ρ x = some v) {k : OpR → Prop} (hk : aArr C t v k) :
  ∃ r, OpSound C nx o ρ r ∧ r.Ok ∧ (∀ q ∈ r.rds, getK h q.1 = some q.2) ∧ k r := by
 have mx : x ∈ o.op.operands := by rw [ho]; simp [Op.operands]
 unfold aArr at hk
 split at hk
 ·rename_i n e hu
  have hrun : ∀ {a : Act} {w : World} {A : Option Addr} {m c : Nat}, a.eval x = .slice A m c → n ≤ m → (execOp a.eval o).run C.P w = .ok (.value (.pointer A)) w := by
   intro a w A m c e1 hm
   unfold execOp
   simp only [ho, e1, Sem.run_bind, run_arrayAt hu hm, Result.andThen_ok, Sem.run_pure]
  split at hk
  ·rename_i kd l
   obtain ⟨hc, hk⟩ := cond_prop hk
   simp only [Bool.and_eq_true] at hc
   refine ⟨_, OpSound.of_read rfl rfl ?_, OpR.ok_read rfl, fun q hq => by simp at hq, hk⟩
   intro ι N w a hp hop
   obtain ⟨⟨A, c, e1, h1, h2⟩, h3⟩ := hop x _ mx hx
   injection e1 with e1 _
   have hn := bleN hc.1
   have hl := bleN hc.2
   obtain ⟨ad, rfl, h4, h5⟩ := h2 (by omega)
   have hl' : n ≤ l.length := hl
   refine ⟨_, hrun e1 hl', ad, l.length, c, ⟨⟨some ad, c, rfl, h1, fun _ => ⟨ad, rfl, h4, h5⟩⟩, h3⟩, by omega, by show 0 < 1; omega, ?_⟩
   simp [Addr.add]
  ·rename_i b m
   obtain ⟨hc, hk⟩ := cond_prop hk
   simp only [Bool.and_eq_true] at hc
   refine ⟨_, OpSound.of_read rfl rfl ?_, OpR.ok_read rfl, fun q hq => by simp at hq, hk⟩
   intro ι N w a hp hop
   have hn := bleN hc.1
   have hl := bleN hc.2
   obtain ⟨L, h1, h2, h3⟩ := hop x _ mx hx
   rcases h3 with ⟨_, h0, _⟩ | ⟨_, c, e1, _⟩
   ·omega
   ·injection e1 with e1 _
    exact ⟨_, hrun e1 hl, L, h1, by omega, by omega, by simp⟩
  ·rename_i b i m
   obtain ⟨hc, hk⟩ := cond_prop hk
   simp only [Bool.and_eq_true] at hc
   refine ⟨_, OpSound.of_read rfl rfl ?_, OpR.ok_read rfl, fun q hq => by simp at hq, hk⟩
   intro ι N w a hp hop
   have hn := bleN hc.1
   have hl := bleN hc.2
   obtain ⟨L, h1, h2, h3⟩ := hop x _ mx hx
   rcases h3 with ⟨_, h0, _⟩ | ⟨_, A, c, e1, hmc, hA1, hA2, hA3⟩
   ·omega
   ·injection e1 with e1 _
    refine ⟨_, hrun e1 hl, L, h1, by omega, by omega, ?_⟩
    rw [eta_addr hA1 hA2 (hA3 (by omega)).1]; simp
  ·rename_i b i esz off m
   obtain ⟨hc, hk⟩ := cond_prop hk
   simp only [Bool.and_eq_true] at hc
   refine ⟨_, OpSound.of_read rfl rfl ?_, OpR.ok_read rfl, fun q hq => by simp at hq, hk⟩
   intro ι N w a hp hop
   have hn := bleN hc.1
   have hl := bleN hc.2
   obtain ⟨L, A, c, h1, h2, h3, e1, hmc, hA1, hA2, hA3⟩ := hop x _ mx hx
   injection e1 with e1 _
   refine ⟨_, hrun e1 hl, L, h1, h2, by omega, ?_⟩
   rw [eta_addr hA1 hA2 (hA3 (by omega))]
  ·exact hk.elim
 ·exact hk.elim
theorem sub_range {k : IntKind} {l : List Int} {i n : Nat} (h : i + n ≤ l.length) (hr : ∀ x ∈ l, okI k x) {t : TypeId} {o : Oper} {a : Act} {x : Operand} (ho : o.op = .load t x) (hk : kindOf C t = some (true, n)) {b of_ : Nat}
  (hx : a.eval x = .pointer (some ⟨b, of_, none⟩)) (hc : ∀ j u, (l.map (Value.int k))[i + j]? = some u → w.cell? ⟨b, of_ + j, none⟩ = some u) :
  ∃ v, (execOp a.eval o).run C.P w = .ok (.value v) w ∧ (AV.c (arrC k n ((l.drop i).take n))).val ι N w v := by
 have hl : ((l.drop i).take n).length = n := by rw [List.length_take, List.length_drop]; omega
 have hrange : w.rangeAt b of_ (((l.drop i).take n).map (Value.int k)) := by
  intro j u hj
  refine hc j u ?_
  rw [List.getElem?_map, List.getElem?_take] at hj
  rw [List.getElem?_map]
  split at hj
  ·rwa [List.getElem?_drop] at hj
  ·cases hj
 obtain ⟨v, hv, hval⟩ := run_load (C := C) (w := w) ho hx hk hrange (by rw [List.length_map, hl]) (fun h => by cases h)
 exact ⟨v, hv, val_of_cells (u := .c (arrC k n ((l.drop i).take n))) (agg := true) (arrC_agg k n _) (arrC_rel rfl hl fun y hy => hr y (List.mem_of_mem_drop (List.mem_of_mem_take hy))) hval⟩
theorem arrK_sound {K : OpK} (hK : OpKSound C K) : OpKSound C (arrK C K) := by
 intro h nx o ρ k hk
 unfold arrK at hk
 split at hk
 ·rename_i t x ho
  split at hk
  ·rename_i v hx; exact sound_arr ho hx hk
  ·exact hk.elim
 ·rename_i t x ho
  have mx : x ∈ o.op.operands := by rw [ho]; simp [Op.operands]
  split at hk
  ·rename_i n b i hn hx
   split at hk
   ·rename_i ty kd l hb
    have hb : getK h b = some (.cells ty 1 (.ints kd l)) := by
     unfold intsAt at hb
     split at hb
     ·rename_i hg; injection hb with hb; injection hb with e1 hb; injection hb with e2 e3; subst e1; subst e2; subst e3; exact hg
     ·cases hb
    obtain ⟨hc, hk⟩ := cond_prop hk
    have hle := bleN hc
    refine ⟨_, OpSound.of_read rfl rfl ?_, OpR.ok_read rfl, fun q hq => by simp at hq; subst hq; exact hb, hk⟩
    intro ι N w a hp hop
    obtain ⟨L, h1, h2, h3, e1⟩ := hop x _ mx hx
    injection e1 with e1 _
    obtain ⟨L', k1, k2, _⟩ := hp.rds (b, .cells ty 1 (.ints kd l)) (by simp)
    have h1 : ι b = some L := h1
    rw [h1] at k1; injection k1 with k1; subst k1
    rcases k2 with ⟨_, _, _, k4⟩ | ⟨_, pre, xs, post, ⟨g1, g2, ⟨_, g3, g4⟩, g5⟩, _⟩
    ·omega
    ·refine sub_range hle g4 ho (arrL_some hn) e1 fun j u hj => ?_
     rw [← g3] at hj
     have := cell_mid (w := w) (c1 := []) (c2 := xs) (c3 := []) (pre := pre) (post := post) (by simpa using g1) hj
     rw [← this, ← g2, show pre.length + (i * 1 + 0) + j = pre.length + (([] : List Value).length + (i + j)) by rw [List.length_nil]; omega]
   ·exact hK h nx o ρ k hk
  ·rename_i n kd l i hn hx
   obtain ⟨hc, hk⟩ := cond_prop hk
   have hle := bleN hc
   refine ⟨_, OpSound.of_read rfl rfl ?_, OpR.ok_read rfl, fun q hq => by simp at hq, hk⟩
   intro ι N w a hp hop
   obtain ⟨ad, m, c, ⟨⟨A, c', e0, h1, h2⟩, h3⟩, hi, _, e1⟩ := hop x _ mx hx
   injection e1 with e1 _
   injection e0 with e0 _
   injection e0 with e2 e3 e4
   subst e3
   obtain ⟨ad', e5, _, h4⟩ := h2 (by omega)
   rw [← e2] at e5
   injection e5 with e5; subst e5
   have hi : i < l.length := hi
   have hz := add_spot (h4 i _ (by rw [List.getElem?_map, List.getElem?_eq_getElem hi]; rfl))
   refine sub_range hle h3 ho (arrL_some hn) (b := ad.block) (of_ := ad.off + i) ?_ fun j u hj => ?_
   ·rw [e1, show i * (CV.ints kd l).esz + 0 = i by show i * 1 + 0 = i; omega, hz]
   ·have h5 := h4 _ _ hj
    rw [add_spot h5] at h5
    rw [← h5]
    congr 2
    omega
  ·exact hK h nx o ρ k hk
 ·exact hK h nx o ρ k hk
end
end Go.Ab
/- All operations in one. -/
namespace Go.Ab
open Go Go.Chr Go.RowKit
def opK0 (C : Ctx) (Γ : Tab) : OpK := fun h nx o ρ k => match o.op with
 | .pick c x y => match ρ c with
  | some v => aPick v (ρ x) (ρ y) k
  | none => False
 | .nilCheck x => match ρ x with
  | some v => aNil v k
  | none => False
 | .field t x f => match ρ x with
  | some v => aPart C t v f k
  | none => False
 | .index t x y => match ρ x, ρ y with
  | some v, some i => aIndex C t v i k
  | _, _ => False
 | .slice t x lo hi none => match ρ x with
  | some v => aSlice C t v (bndO ρ lo) (bndO ρ hi) k
  | none => False
 | .makeSlice t x y => match ρ x, ρ y with
  | some l, some c => aMake C nx t l c k
  | _, _ => False
 | .buildSlice t n parts => aBuildS C nx t n parts.toList ρ k
 | .convert s d x => match ρ x with
  | some a => aConv2 C h s d a k
  | none => False
 | .call c => match c with
  | ⟨.builtin .append, args, ts⟩ => match args.toList, ts.toList with
   | [x, y], [t, tx] => match ρ x, ρ y with
    | some a, some b => aAppend C h nx t tx a b k
    | _, _ => False
   | _, _ => False
  | ⟨.builtin .copy, args, ts⟩ => match args.toList, ts.toList with
   | [x, y], [t, _] => match ρ x, ρ y with
    | some a, some b => aCopy C h t a b k
    | _, _ => False
   | _, _ => False
  | ⟨.builtin .min, args, ts⟩ => match args.toList, ts.toList with
   | [x, y], [_, _] => match ρ x, ρ y with
    | some a, some b => aMin2 false a b k
    | _, _ => False
   | _, _ => False
  | ⟨.builtin .max, args, ts⟩ => match args.toList, ts.toList with
   | [x, y], [_, _] => match ρ x, ρ y with
    | some a, some b => aMin2 true a b k
    | _, _ => False
   | _, _ => False
  | _ => aOp C Γ h nx o ρ k
 | _ => aOp C Γ h nx o ρ k
theorem two_args {args : Array Operand} {x y : Operand} (h : args.toList = [x, y]) : args = #[x, y] := by rw [← Array.toArray_toList (xs := args), h]
theorem two_types {args : Array TypeId} {x y : TypeId} (h : args.toList = [x, y]) : args = #[x, y] := by rw [← Array.toArray_toList (xs := args), h]
theorem opK0_sound {C : Ctx} {Γ : Tab} (hΓ : TabOk C Γ) : OpKSound C (opK0 C Γ) := by
 intro h nx o ρ k hk
 unfold opK0 at hk
 split at hk
 ·rename_i c x y ho
  split at hk
  ·rename_i v hv; exact sound_pick ho hv hk
  ·exact hk.elim
 ·rename_i x ho
  split at hk
  ·rename_i v hv; exact sound_nil ho hv hk
  ·exact hk.elim
 ·rename_i t x f ho
  split at hk
  ·rename_i v hv; exact sound_part ho hv hk
  ·exact hk.elim
 ·rename_i t x y ho
  split at hk
  ·rename_i v i hv hi; exact sound_index ho hv hi hk
  ·exact hk.elim
 ·rename_i t x lo hi ho
  split at hk
  ·rename_i v hv; exact sound_slice ho hv hk
  ·exact hk.elim
 ·rename_i t x y ho
  split at hk
  ·rename_i l c hl hc; exact sound_make ho hl hc hk
  ·exact hk.elim
 ·rename_i t n parts ho; exact sound_buildS ho hk
 ·rename_i s d x ho
  split at hk
  ·rename_i a hx; exact sound_conv2 ho hx hk
  ·exact hk.elim
 ·rename_i c ho
  split at hk
  ·rename_i args ts
   split at hk
   ·rename_i x y t tx h1 h2
    have e1 := two_args h1
    have e2 := two_types h2
    subst e1; subst e2
    split at hk
    ·rename_i a b hx hy; exact sound_append ho hx hy hk
    ·exact hk.elim
   ·exact hk.elim
  ·rename_i args ts
   split at hk
   ·rename_i x y t tx h1 h2
    have e1 := two_args h1
    have e2 := two_types h2
    subst e1; subst e2
    split at hk
    ·rename_i a b hx hy; exact sound_copy ho hx hy hk
    ·exact hk.elim
   ·exact hk.elim
  ·rename_i args ts
   split at hk
   ·rename_i x y t tx h1 h2
    have e1 := two_args h1
    have e2 := two_types h2
    subst e1; subst e2
    split at hk
    ·rename_i a b hx hy; exact sound_min (mx := false) ho hx hy hk
    ·exact hk.elim
   ·exact hk.elim
  ·rename_i args ts
   split at hk
   ·rename_i x y t tx h1 h2
    have e1 := two_args h1
    have e2 := two_types h2
    subst e1; subst e2
    split at hk
    ·rename_i a b hx hy; exact sound_min (mx := true) ho hx hy hk
    ·exact hk.elim
   ·exact hk.elim
  ·exact aOp_sound hΓ h nx o ρ k hk
 ·exact aOp_sound hΓ h nx o ρ k hk
def opK (C : Ctx) (Γ : Tab) : OpK := bornK Γ (fnK Γ (mapK C (optK C (arrK C (opK0 C Γ)))))
theorem opK_sound {C : Ctx} {Γ : Tab} (hΓ : TabOk C Γ) : OpKSound C (opK C Γ) := bornK_sound (fnK_sound hΓ (mapK_sound (optK_sound (arrK_sound (opK0_sound hΓ)))))
end Go.Ab
/- Loops: a state in its plain make, what a loop does. -/
namespace Go.Ab
open Go Go.Chr Go.RowKit
def slotsAt (sl : List (Nat × AV)) : List Nat → Option (List AV)
 | [] => some []
 | t :: l => match getK sl t, slotsAt sl l with
  | some v, some vs => some (v :: vs)
  | _, _ => none
def normVL : List AV → List AV
 | [] => []
 | a :: l => normV a :: normVL l
def zipS : List Nat → List AV → List (Nat × AV)
 | t :: l, v :: vs => (t, v) :: zipS l vs
 | _, _ => []
def heapO (r : Heap) : Nat → List (Option Blk') → Heap
 | _, [] => r
 | i, some b :: l => (i, b) :: heapO r (i + 1) l
 | i, none :: l => heapO r (i + 1) l
def cHo (h : Heap) : Nat → Nat → List Nat → Option (List (Option Blk') × List Nat)
 | 0, i, s => bif Nat.beq i s.length then some ([], s) else none
 | f + 1, i, s => match s[i]? with
  | none => bif Nat.beq i s.length then some ([], s) else none
  | some n => match getK h n with
   | none => match cHo h f (i + 1) s with
    | some (l, s2) => some (none :: l, s2)
    | none => none
   | some blk => match cB (nB blk) s with
    | (b', s1) => match cHo h f (i + 1) s1 with
     | some (l, s2) => some (some b' :: l, s2)
     | none => none
def canon (m : Nat) (ls : List Nat) (st : St) : Option St := match slotsAt st.sl ls with
 | none => none
 | some vs => match cAs (normVL vs) (upto m 0) with
  | (vs', s1) => match cE st.h m 0 s1 with
   | (outs, s2) => match cHo st.h 99 m s2 with
    | some (news, s3) => some ⟨zipS ls vs', heapO (heapO [] m news) 0 outs, s3.length, st.nt⟩
    | none => none
section
theorem slotsAt_ok {sl : List (Nat × AV)} : ∀ {ls : List Nat} {vs : List AV}, slotsAt sl ls = some vs → vs.length = ls.length ∧ ∀ (i t : Nat), ls[i]? = some t → ∃ v, vs[i]? = some v ∧ getK sl t = some v
 | [], vs, h => by
  injection h with h; subst h
  exact ⟨rfl, fun i t h => by simp at h⟩
 | t :: l, vs, h => by
  unfold slotsAt at h
  split at h
  ·rename_i v vs' hv hvs
   injection h with h; subst h
   obtain ⟨h1, h2⟩ := slotsAt_ok hvs
   refine ⟨by simp [h1], fun i u hu => ?_⟩
   cases i with
   | zero => simp at hu; subst hu; exact ⟨v, rfl, hv⟩
   | succ i => exact h2 i u (by simpa using hu)
  ·cases h
theorem normVL_get : ∀ {l : List AV} {i : Nat} {v : AV}, l[i]? = some v → (normVL l)[i]? = some (normV v)
 | a :: l, 0, v, h => by simp at h; subst h; rfl
 | a :: l, i + 1, v, h => normVL_get (l := l) (i := i) (by simpa using h)
theorem renL_get {τ : Nat → Nat} : ∀ {l : List AV} {i : Nat} {v : AV}, l[i]? = some v → (renL τ l)[i]? = some (v.ren τ)
 | a :: l, 0, v, h => by simp at h; subst h; rfl
 | a :: l, i + 1, v, h => renL_get (l := l) (i := i) (by simpa using h)
theorem bndL_get {m : Nat} : ∀ {l : List AV} {i : Nat} {v : AV}, bndL m l → l[i]? = some v → v.bnd m
 | a :: l, 0, v, hb, h => by simp at h; subst h; exact hb.1
 | a :: l, i + 1, v, hb, h => bndL_get (l := l) (i := i) hb.2 (by simpa using h)
theorem zipS_get {t : Nat} {v : AV} : ∀ {ls : List Nat} {vs : List AV}, getK (zipS ls vs) t = some v → ∃ i : Nat, ls[i]? = some t ∧ vs[i]? = some v
 | [], vs, h => by simp [zipS, getK] at h
 | _ :: _, [], h => by simp [zipS, getK] at h
 | s :: l, u :: vs, h => by
  unfold zipS at h
  rw [getK_eq, List.lookup_cons] at h
  split at h
  ·rename_i hb
   injection h with h
   have : t = s := by simpa using hb
   subst this; subst h
   exact ⟨0, rfl, rfl⟩
  ·rw [← getK_eq] at h
   obtain ⟨i, h1, h2⟩ := zipS_get h
   exact ⟨i + 1, by simpa using h1, by simpa using h2⟩
theorem heapO_get {r : Heap} {t : Nat} {b : Blk'} : ∀ {l : List (Option Blk')} {i : Nat}, getK (heapO r i l) t = some b → (i ≤ t ∧ l[t - i]? = some (some b)) ∨ getK r t = some b
 | [], _, h => .inr h
 | some x :: l, i, h => by
  unfold heapO at h
  rw [getK_eq, List.lookup_cons] at h
  split at h
  ·rename_i hb
   injection h with h
   have : t = i := by simpa using hb
   subst this; subst h
   exact .inl ⟨Nat.le_refl _, by simp⟩
  ·rename_i hb
   rw [← getK_eq] at h
   rcases heapO_get h with ⟨h1, h2⟩ | h
   ·refine .inl ⟨by omega, ?_⟩
    rw [show t - i = (t - (i + 1)) + 1 by omega]; simpa using h2
   ·exact .inr h
 | none :: l, i, h => by
  unfold heapO at h
  rcases heapO_get h with ⟨h1, h2⟩ | h
  ·refine .inl ⟨by omega, ?_⟩
   rw [show t - i = (t - (i + 1)) + 1 by omega]; simpa using h2
  ·exact .inr h
end
theorem cHo_ok {h : Heap} : ∀ {f i : Nat} {s s' : List Nat} {l : List (Option Blk')}, cHo h f i s = some (l, s') → i ≤ s.length →
  CanonStep s s' ∧ i + l.length = s'.length ∧ ∀ j b, l[j]? = some (some b) → b.bnd s'.length ∧ ∃ blk, getK h (nth s' (i + j)) = some blk ∧ ∀ t, b.ren (nth (s' ++ t)) = nB blk
 | 0, i, s, s', l, e, hi => by
  unfold cHo at e
  cases hb : Nat.beq i s.length with
  | false => rw [hb] at e; cases e
  | true =>
   rw [hb] at e; injection e with e; injection e with e1 e2; subst e1; subst e2
   have := beqN hb
   exact ⟨.refl _, by simpa using this, fun j b hj => by simp at hj⟩
 | f + 1, i, s, s', l, e, hi => by
  unfold cHo at e
  split at e
  ·cases hb : Nat.beq i s.length with
   | false => rw [hb] at e; cases e
   | true =>
    rw [hb] at e; injection e with e; injection e with e1 e2; subst e1; subst e2
    have := beqN hb
    exact ⟨.refl _, by simpa using this, fun j b hj => by simp at hj⟩
  ·rename_i n hn
   have hlt := (List.getElem?_eq_some_iff.1 hn).1
   split at e
   ·split at e
    ·rename_i l2 s2 hrec
     injection e with e; injection e with e1 e2; subst e1; subst e2
     obtain ⟨k1, k2, k3⟩ := cHo_ok hrec (by omega)
     refine ⟨k1, by simp; omega, ?_⟩
     intro j b hj
     cases j with
     | zero => simp at hj
     | succ j =>
      obtain ⟨q1, q2⟩ := k3 j b (by simpa using hj)
      rw [show i + (j + 1) = i + 1 + j by omega]
      exact ⟨q1, q2⟩
    ·cases e
   ·rename_i blk hblk
    split at e
    rename_i b' s1 hb
    split at e
    ·rename_i l2 s2 hrec
     injection e with e; injection e with e1 e2; subst e1; subst e2
     obtain ⟨g1, gb, g2⟩ := cB_ok hb
     obtain ⟨t0, e0⟩ := g1.ext
     obtain ⟨k1, k2, k3⟩ := cHo_ok hrec (by rw [e0, List.length_append]; omega)
     refine ⟨g1.trans k1, by simp; omega, ?_⟩
     intro j b hj
     cases j with
     | zero =>
      simp at hj; subst hj
      refine ⟨Blk'.bnd_mono k1.le gb, blk, ?_, ?_⟩
      ·obtain ⟨t1, e1⟩ := (g1.trans k1).ext
       rw [Nat.add_zero, e1, nth_app hlt]
       have : nth s i = n := by unfold nth; rw [List.getD_eq_getElem?_getD, hn]; rfl
       rw [this]; exact hblk
      ·intro t
       obtain ⟨t1, e1⟩ := k1.ext
       rw [e1, List.append_assoc]
       exact g2 _
     | succ j =>
      obtain ⟨q1, q2⟩ := k3 j b (by simpa using hj)
      rw [show i + (j + 1) = i + 1 + j by omega]
      exact ⟨q1, q2⟩
    ·cases e
section
variable {C : Ctx} {X : Snap} {m : Nat} {ls : List Nat}
theorem canon_rel {st st' : St} {a : Act} {w : World} (hX : ∀ b L, X.ι b = some L → b < m) (h : canon m ls st = some st') (H : SRel C X st a w) : SRel C X st' a w := by
 unfold canon at h
 split at h
 ·cases h
 rename_i vs hvs
 split at h
 rename_i vs' s1 hca
 split at h
 rename_i outs s2 hcE
 split at h
 ·rename_i news s3 hcH
  injection h with h
  subst h
  obtain ⟨ι, N, H⟩ := H
  obtain ⟨g1, g2⟩ := slotsAt_ok hvs
  obtain ⟨a1, a2, a3, a4⟩ := cAs_ok hca
  obtain ⟨d1, d2, d3, d4⟩ := cE_ok hcE
  have hle2 : m ≤ s2.length := by
   have := (a1.trans d1).le
   rw [upto_len] at this; exact this
  obtain ⟨e1, e2, e3⟩ := cHo_ok hcH hle2
  have hst : CanonStep (upto m 0) s3 := (a1.trans d1).trans e1
  have hn3 : s3.Nodup := hst.nd (upto_nodup _ _)
  have hm3 : m ≤ s3.length := by
   have := hst.le
   rw [upto_len] at this; exact this
  have hlow : ∀ n, n < m → nth s3 n = n := by
   intro n hn
   obtain ⟨t, et⟩ := hst.ext
   rw [et, nth_app (by rw [upto_len]; omega)]
   unfold nth
   rw [List.getD_eq_getElem?_getD, upto_get (by omega)]; simp
  let ι' : Nat → Option Loc := fun n => if n < s3.length then ι (nth s3 n) else none
  have hι' : ∀ n L, n < s3.length → ι (nth s3 n) = some L → ι' n = some L := fun n L hn hL => by
   show (if n < s3.length then ι (nth s3 n) else none) = some L
   rw [if_pos hn]; exact hL
  have hι'' : ∀ n L, ι' n = some L → n < s3.length ∧ ι (nth s3 n) = some L := fun n L hL => by
   have hL : (if n < s3.length then ι (nth s3 n) else none) = some L := hL
   split at hL
   ·rename_i hn; exact ⟨hn, hL⟩
   ·cases hL
  -- where a block comes from
  have hb : ∀ b blk, getK (heapO (heapO [] m news) 0 outs) b = some blk → b < s3.length ∧ blk.bnd s3.length ∧ ∃ blk0, getK st.h (nth s3 b) = some blk0 ∧ blk.ren (nth s3) = nB blk0 := by
   intro b blk hb
   rcases heapO_get hb with ⟨_, h2⟩ | h2
   ·rw [Nat.sub_zero] at h2
    have hlt : b < m := by
     have := (List.getElem?_eq_some_iff.1 h2).1
     omega
    obtain ⟨k1, blk0, k2, k3⟩ := d3 b blk h2
    rw [Nat.zero_add] at k2
    refine ⟨by omega, Blk'.bnd_mono e1.le k1, blk0, by rw [hlow b hlt]; exact k2, ?_⟩
    obtain ⟨t, et⟩ := e1.ext
    have h4 := k3 t
    rw [← et] at h4
    exact h4
   ·rcases heapO_get h2 with ⟨h1, h2⟩ | h2
    case inr => cases h2
    have hlt := (List.getElem?_eq_some_iff.1 h2).1
    obtain ⟨k1, blk0, k2, k3⟩ := e3 (b - m) blk h2
    rw [show m + (b - m) = b by omega] at k2
    refine ⟨by omega, k1, blk0, k2, ?_⟩
    have h4 := k3 []
    rw [List.append_nil] at h4
    exact h4
  refine ⟨ι', N, ?_, ?_, ?_, H.env, ?_, H.n0, H.nN, ?_, H.upd, H.size, H.ds⟩
  ·intro t v hv
   obtain ⟨i, h1, h2⟩ := zipS_get hv
   obtain ⟨v0, h3, h4⟩ := g2 i t h1
   have h5 := normV_val (H.slots t v0 h4)
   obtain ⟨tt, et⟩ := (d1.trans e1).ext
   have h6 := a4 tt
   rw [← et] at h6
   have h7 := renL_get (τ := nth s3) h2
   rw [h6, normVL_get h3] at h7
   injection h7 with h7
   rw [h7, AV.val_ren] at h5
   exact AV.val_bnd (m := s3.length) (fun n L hn hL => hι' n L hn hL) (AV.bnd_mono (d1.trans e1).le (bndL_get a3 h2)) h5
  ·intro b blk hg
   obtain ⟨k0, k1, blk0, k2, k3⟩ := hb b blk hg
   obtain ⟨L, m1, m2, m3⟩ := H.blks _ _ k2
   refine ⟨L, hι' b L k0 m1, ?_, m3⟩
   have h1 := nB_rel m2
   rw [← k3, Blk'.rel_ren] at h1
   exact Blk'.rel_bnd (m := s3.length) (fun n L hn hL => hι' n L hn hL) k1 h1
  ·intro b b' blk blk' L L' hg hg' hne hL hL' hph hph'
   obtain ⟨k0, _, blk0, k2, _⟩ := hb b blk hg
   obtain ⟨k0', _, blk0', k2', _⟩ := hb b' blk' hg'
   exact H.inj _ _ _ _ L L' k2 k2' (fun e => hne (nth_inj hn3 k0 k0' e)) (hι'' _ _ hL).2 (hι'' _ _ hL').2 hph hph'
  ·intro b L hL
   exact (hι'' b L hL).1
  ·intro b L hL
   have hbm := hX b L hL
   exact hι' b L (by omega) (by rw [hlow b hbm]; exact H.i0 b L hL)
 ·cases h
theorem Walks.canon {st st' : St} {c : Code} {k : Exit → St → Prop} (hX : ∀ b L, X.ι b = some L → b < m) (h : canon m ls st = some st') (hw : Walks C X c st' k) : Walks C X c st k :=
 fun a w H => hw a w (canon_rel hX h H)
abbrev LoopC := St → (Exit → St → Prop) → Prop
def LOk (C : Ctx) (X : Snap) (id : Nat) (b : Code) (L : LoopC) : Prop := ∀ st k, L st k → Walks C X (.block id b) st k
def getL : List (Nat × LoopC) → Nat → Option LoopC
 | [], _ => none
 | (e, u) :: l, t => bif Nat.beq t e then some u else getL l t
def wpL (C : Ctx) (K : OpK) (cut : List (Nat × LoopC)) (X : Snap) : Nat → Code → St → (Exit → St → Prop) → Prop
 | 0, _, _, _ => False
 | f + 1, c, st, k => match c with
  | .skip => k .normal st
  | .region _ ops draw => runOps C K ops.toList ops.toList st [] fun st' rs => match draw with
   | true => cond (orderOK ops.toList rs && backOK 0 ops.toList) (k .normal st') False
   | false => k .normal st'
  | .seq a b => wpL C K cut X f a st (thenK (fun st' => wpL C K cut X f b st' k) k)
  | .cond x a b => match evalO C st x with
   | some (.c (.bool t)) => match x with
    | .tmp d => cond t (knowK st d true fun st => wpL C K cut X f a st k) (knowK st d false fun st => wpL C K cut X f b st k)
    | _ => cond t (wpL C K cut X f a st k) (wpL C K cut X f b st k)
   | _ => False
  | .block id b => match getL cut id with
   | some L => LOk C X id b L ∧ L st k
   | none => wpL C K cut X f b st (blockK id k)
  | .loop b => wpL C K cut X f b st (thenK (fun st' => wpL C K cut X f (.loop b) st' k) k)
  | .exit id => k (.exit id) st
  | .ret => k .ret st
  | _ => False
theorem wpL_walks {K : OpK} {cut : List (Nat × LoopC)} (hf : C.P.follows .mixedOrders = true) (hK : OpKSound C K) : ∀ (f : Nat) (c : Code) (st : St) (k : Exit → St → Prop), wpL C K cut X f c st k → Walks C X c st k := by
 intro f
 induction f using Nat.strongRecOn with
 | _ f ih =>
  intro c st k h
  cases f with
  | zero => exact h.elim
  | succ f =>
  have hh := h
  unfold wpL at h
  have ih1 := ih f (by omega)
  split at h
  ·intro a w H; exact wp_skip ⟨st, H, h⟩
  ·rename_i id ops draw
   obtain ⟨rs, st1, st', hch, he, hm, h⟩ := runOps_chain hK _ _ _ _ (.refl _) h
   simp only [List.reverse_nil, List.nil_append] at h
   intro a w H
   cases draw with
   | true =>
    obtain ⟨hc, h⟩ := cond_prop h
    simp only [Bool.and_eq_true] at hc
    have := chain_any (id := id) (Q := fun e a' w' => ∃ st', SRel C X st' a' w' ∧ k e st') hf hch hm hc.1 (ready_all hc.2) H fun a' w' H' => ⟨st', H'.eqv he, h⟩
    rwa [Array.toArray_toList] at this
   | false =>
    refine wp_region_list ?_
    have h2 := chain_list (Q := fun e a' w' => ∃ st', SRel C X st' a' w' ∧ k e st') hch H fun a' w' H' => ⟨st', H'.eqv he, h⟩
    rw [hm, Array.toArray_toList] at h2
    exact h2
  ·exact walks_seq (ih1 _ _ _ h) fun st' h' => ih1 _ _ _ h'
  ·split at h
   ·rename_i t ht
    split at h
    ·rename_i d
     refine walks_cond ht (fun e => ?_) (fun e => ?_)
     ·subst e
      simp only [cond_true, cond_false] at h
      obtain ⟨st2, he, h⟩ := knowK_is ht h
      exact fun a w H => ih1 _ _ _ h a w (H.eqv he)
     ·subst e
      simp only [cond_true, cond_false] at h
      obtain ⟨st2, he, h⟩ := knowK_is ht h
      exact fun a w H => ih1 _ _ _ h a w (H.eqv he)
    ·refine walks_cond ht (fun e => ?_) (fun e => ?_)
     ·subst e; exact ih1 _ _ _ h
     ·subst e; exact ih1 _ _ _ h
   ·exact h.elim
  ·rename_i id b
   split at h
   ·exact h.1 _ _ h.2
   ·exact walks_block (ih1 _ _ _ h)
  ·rename_i b
   refine walks_loop (fun n st => n ≤ f + 1 ∧ wpL C K cut X n (.loop b) st k) ?_ (f + 1) st ⟨Nat.le_refl _, hh⟩
   rintro n st ⟨hn, hw⟩
   cases n with
   | zero => exact hw.elim
   | succ m =>
    refine Walks.mono (ih m (by omega) b st _ hw) ?_
    intro e st' h'
    cases e with
    | normal => exact ⟨m, by omega, by omega, h'⟩
    | exit i => exact h'
    | goto l => exact h'
    | ret => exact h'
    | panic ch => exact h'
    | outgrown => exact h'
  ·intro a w H; exact wp_exit ⟨st, H, h⟩
  ·intro a w H; exact wp_ret ⟨st, H, h⟩
  ·exact h.elim
end
end Go.Ab
/- Contracts that rest on what was proved without the abstract machine: closed values in, closed values out. -/
namespace Go.Ab
open Go Go.Chr Go.RowKit
def cvArgs : List AV → Option (List CV)
 | [] => some []
 | .c v :: l => match cvArgs l with
  | some vs => some (v :: vs)
  | none => none
 | _ => none
def trues : List AV → List Bool
 | [] => []
 | _ :: l => true :: trues l
abbrev CSpec := List CV → Option (Option Prop × AV)
def flatC (F : CSpec) : Contract := fun as h nx k => match closeL h (trues as) as with
 | none => False
 | some (as1, rdc) => match cvArgs as1 with
  | none => False
  | some cs => match F cs with
   | none => False
   | some (p, v) => cond v.solid (asking p (k ⟨v, [], [], rdc⟩)) False
def cvsRel (N : Nat → Prop) (w : World) : List CV → List Value → Prop
 | [], vs => vs = []
 | a :: as, vs => ∃ v vs', vs = v :: vs' ∧ asVal a.isAgg (a.rel N w) v ∧ cvsRel N w as vs'
def CallOk (C : Ctx) (f : FuncId) (F : CSpec) : Prop := ∀ cs p v, F cs = some (p, v) → Asked p → ∀ (N : Nat → Prop) (w : World) (vs : List Value), Env C N w → cvsRel N w cs vs →
 CallOuts C.P f vs w fun u w' => Below w.heap.size w w' ∧ v.val (fun _ => none) N w u
section
variable {C : Ctx}
theorem cvArgs_rel {ι : Nat → Option Loc} {N : Nat → Prop} {w : World} : ∀ {as : List AV} {cs : List CV} {vs : List Value}, cvArgs as = some cs → valsRel ι N w as vs → cvsRel N w cs vs
 | [], cs, vs, h, hv => by
  injection h with h; subst h; exact hv
 | .c v :: l, cs, vs, h, ⟨u, vs', e, h1, h2⟩ => by
  unfold cvArgs at h
  split at h
  ·rename_i vs2 h3
   injection h with h; subst h
   exact ⟨u, vs', e, h1, cvArgs_rel h3 h2⟩
  ·cases h
 | .ptr _ _ _ _ :: _, _, _, h, _ => by cases h
 | .cp _ _ _ :: _, _, _, h, _ => by cases h
 | .own _ _ _ :: _, _, _, h, _ => by cases h
 | .sub _ _ _ _ :: _, _, _, h, _ => by cases h
 | .inn _ _ _ _ _ _ :: _, _, _, h, _ => by cases h
 | .pr _ _ :: _, _, _, h, _ => by cases h
 | .t0 :: _, _, _, h, _ => by cases h
 | .t2 _ _ :: _, _, _, h, _ => by cases h
 | .t3 _ _ _ :: _, _, _, h, _ => by cases h
 | .fn _ _ :: _, _, _, h, _ => by cases h
 | .hd _ _ :: _, _, _, h, _ => by cases h
theorem AV.solid_any {ι ι' : Nat → Option Loc} {N N' : Nat → Prop} {w w' : World} : ∀ {a : AV} {v : Value}, a.solid = true → (∀ b L, ι b = some L → ι' b = some L) → a.val ι N w v → a.val ι' N' w' v
 | a, v, hs, hι, hv => by
  have h1 : a.val ι N' w' v := asVal.mono (fun _ hx => AV.rel_solid hs hx) hv
  have h2 : a.val ι' N' w' v := AV.val.mono (N := N') (N' := N') (w := w') (w' := w') hι (fun _ h => h) (fun _ _ => rfl) h1
  exact h2
theorem CallOuts.mono {P : Program} {f : FuncId} {vs : List Value} {w : World} {R R' : Value → World → Prop} (h : CallOuts P f vs w R) (hR : ∀ u w', R u w' → R' u w') : CallOuts P f vs w R' := by
 unfold CallOuts at *
 split at h
 ·exact hR _ _ h
 ·refine Calls.mono h ?_
  rintro e w'' he
  cases e with
  | returned u => exact hR _ _ he
  | _ => exact he.elim
 ·exact h.elim
theorem flatC_ok {f : FuncId} {F : CSpec} (hF : CallOk C f F) : ContractOk C f (flatC F) := by
 refine ⟨fun args h nx k hk => ?_⟩
 unfold flatC at hk
 split at hk
 ·exact hk.elim
 rename_i as1 rdc hcl
 split at hk
 ·exact hk.elim
 rename_i cs hcs
 split at hk
 ·exact hk.elim
 rename_i p v hv
 obtain ⟨hs, hk⟩ := cond_prop hk
 obtain ⟨hp, hk⟩ := asking_split hk
 refine ⟨_, ?_, OpR.ok_read rfl, ?_, hk⟩
 ·intro ι N w vs hpre hvals
  let NB : Nat → Prop := fun k => ∃ q ∈ rdc, ∃ L, ι q.1 = some L ∧ L.ph = false ∧ k = L.blk
  let N0 : Nat → Prop := fun k => N k ∨ NB k
  have hN0 : ∀ k, N k → N0 k := fun k hk => .inl hk
  have hvals1 : valsRel ι N0 w as1 vs := (closeL_ok hcl).2 hN0 (fun q hq => by
   obtain ⟨L, h1, h2, _⟩ := hpre.rds q hq
   exact ⟨L, h1, h2, fun hph => .inr ⟨q, hq, L, h1, hph, rfl⟩⟩) vs hvals
  have henv : Env C N0 w := by
   refine ⟨?_, fun g blk hg => ?_⟩
   ·rintro k (hk | ⟨q, hq, L, hL, hph, rfl⟩)
    ·exact hpre.env.1 k hk
    ·obtain ⟨L', h1, h2, _⟩ := hpre.rds q hq
     rw [hL] at h1; injection h1 with h1; subst h1
     exact h2.lt hph
   ·obtain ⟨h1, ty, esz, body, xs, post, e, hl⟩ := hpre.env.2 g blk hg
    exact ⟨.inl h1, ty, esz, body, xs, post, e, hl.mono (fun _ _ h => h) hN0 (fun _ _ => rfl) rfl⟩
  refine (hF cs p v hv hp N0 w vs henv (cvArgs_rel hcs hvals1)).mono ?_
  rintro u w' ⟨hb, hu⟩
  have hP : Post ι N w ι N w' nx ⟨v, [], [], rdc⟩ := by
   constructor
   ·exact fun _ _ h => h
   ·exact fun _ _ h => .inl h
   ·exact fun _ h => h
   ·exact fun _ h => .inl h
   ·exact fun k hk => Nat.lt_of_lt_of_le (hpre.env.1 k hk) hb.size
   ·exact Upd.below hb _
   ·intro b blk h; cases h
   ·intro j blk h; simp at h
   ·intro i j Li Lj hi; simp at hi
  exact ⟨ι, N, hP, AV.solid_any (ι := fun _ => none) hs (fun b L h => by cases h) hu⟩
 ·intro q hq
  exact (closeL_ok (ι := fun _ => none) (w := default) hcl).1 q hq
theorem callOuts_of {P : Program} {f : FuncId} {vs : List Value} {w : World} {R : Value → World → Prop} (hfn : (P.funcs[f]?).map (fun fn => (fn.name == "runtime.NumGoroutine", fn.body.isSome)) = some (false, true))
  (h : Calls P f vs.toArray w fun e w' => ∃ u, e = .returned u ∧ R u w') : CallOuts P f vs w R := by
 unfold CallOuts
 rw [run_call w hfn]
 refine Calls.mono h ?_
 rintro e w' ⟨u, rfl, hu⟩
 exact hu
theorem callOuts_value {P : Program} {f : FuncId} {vs : List Value} {w w' : World} {u : Value} {R : Value → World → Prop} (h : (callFunc f vs.toArray).run P w = .ok (.value u) w') (hR : R u w') : CallOuts P f vs w R := by
 unfold CallOuts
 rw [h]; exact hR
theorem callOk_value {C : Ctx} {f : FuncId} {F : CSpec} (h : ∀ cs p v, F cs = some (p, v) → Asked p → ∀ (N : Nat → Prop) (w : World) (vs : List Value), cvsRel N w cs vs → ∃ u, (callFunc f vs.toArray).run C.P w = .ok (.value u) w ∧ v.val (fun _ => none) N w u) : CallOk C f F := by
 intro cs p v hF hp N w vs _ hv
 obtain ⟨u, h1, h2⟩ := h cs p v hF hp N w vs hv
 exact callOuts_value h1 ⟨Below.refl _ _, h2⟩
end
end Go.Ab
/- Functions: the rule, as the walks use it. -/
namespace Go.Ab
open Go Go.Chr Go.RowKit
section
variable {C : Ctx}
theorem TabOk.nil : TabOk C [] := fun _ _ h => by cases h
theorem TabOk.cons {f : FuncId} {F : Contract} {Γ : Tab} (h : ContractOk C f F) (t : TabOk C Γ) : TabOk C ((f, F) :: Γ) := by
 intro g G hg
 unfold getK at hg
 cases hb : Nat.beq g f with
 | true =>
  rw [hb] at hg
  injection hg with hg
  have := beqN hb
  subst this; subst hg
  exact h
 | false => rw [hb] at hg; exact t g G hg
theorem cond_intro {b : Bool} {p q : Prop} (h1 : b = true → p) (h2 : b = false → q) : cond b p q := by
 cases b with
 | true => exact h1 rfl
 | false => exact h2 rfl
noncomputable def shut {α : Type} (a : α) : α := Classical.choose (⟨a, rfl⟩ : ∃ b, b = a)
theorem shut_eq {α : Type} (a : α) : shut a = a := Classical.choose_spec (⟨a, rfl⟩ : ∃ b, b = a)
theorem guard_some {α : Type 1} {b : Bool} {x : Option α} {y : α} (h : (bif b then x else none) = some y) : b = true ∧ x = some y := by
 cases b with
 | true => exact ⟨rfl, h⟩
 | false => cases h
def Ev (p : Prop) : Prop := ∃ q, p = q ∧ q
theorem Ev.out {p : Prop} (h : Ev p) : p := by
 obtain ⟨q, e, h⟩ := h
 rw [e]; exact h
def bodyOf' (fn : Func) : Code := fn.body.getD .skip
theorem cond_at {b : Bool} {p q : Prop} (hb : b = true) (h : p) : cond b p q := by rw [hb]; exact h
theorem cond_no {b : Bool} {p q : Prop} (hb : b = false) (h : q) : cond b p q := by rw [hb]; exact h
def blockAt (id : Nat) : Code → Option Code
 | .block i b => bif Nat.beq i id then some b else blockAt id b
 | .seq a b => match blockAt id a with
  | some c => some c
  | none => blockAt id b
 | .cond _ a b => match blockAt id a with
  | some c => some c
  | none => blockAt id b
 | .loop b => blockAt id b
 | _ => none
def inLoop : Option Code → Code
 | some (.loop b) => b
 | some b => b
 | none => .skip
end
end Go.Ab
/- What a state tells of the values that it names. -/
namespace Go.Ab
open Go Go.Chr Go.RowKit
def bytesOk (l : List Int) : Prop := ∀ x ∈ l, 0 ≤ x ∧ x < 256
def natFact (m x : Nat) : Prop := x < m ∧ m ≤ two256
def intsFact (k : IntKind) (l : List Int) : Prop := ∀ x ∈ l, okI k x
def arrFact (k : IntKind) (n : Nat) (l : List Int) : Prop := l.length = n ∧ ∀ x ∈ l, okI k x
def rowsFact.{u} {α : Type u} (p : α → Prop) (xs : List α) : Prop := ∀ (i : Nat) (y : α), xs[i]? = some y → p y
def Tag.fact : (t : Tag) → El t → Prop
 | .int k, n => okI k n
 | .bool, _ => True
 | .str, l => bytesOk l
 | .nat m, x => natFact m x
 | .arr k n, l => arrFact k n l
 | .nl, _ => True
 | .pr a b, p => a.fact p.1 ∧ b.fact p.2
 | .ints k, l => intsFact k l
 | .rows _ t, xs => rowsFact t.fact xs
def CV.fact : CV → Prop
 | .int k n => okI k n
 | .bool _ => True
 | .str l => bytesOk l
 | .raw _ => True
 | .nat m x => natFact m x
 | .arr k n l => arrFact k n l
 | .nl => True
 | .pr a b => a.fact ∧ b.fact
 | .ints k l => intsFact k l
 | .rows _ t xs => rowsFact t.fact xs
def AV.fact : AV → Prop
 | .c v => v.fact
 | .pr a b => a.fact ∧ b.fact
 | .t2 a b => a.fact ∧ b.fact
 | .t3 a b e => a.fact ∧ b.fact ∧ e.fact
 | _ => True
def Body.fact : Body → Prop
 | .ints k l => intsFact k l
 | .rows t xs => rowsFact t.fact xs
 | .els l => rowsFact AV.fact l
def Blk'.fact : Blk' → Prop
 | .cells _ _ b => b.fact
 | .map t m => rowsFact (fun p => t.fact p.2) m
 | .opt alive _ _ b => alive = true → b.fact
def lenFact (h : Heap) : AV → Prop
 | .own b _ n => match getK h b with
  | some (.cells _ _ body) => n = body.len
  | _ => True
 | .sub b _ i n => match getK h b with
  | some (.cells _ _ body) => i + n ≤ body.len
  | _ => True
 | .pr a b => lenFact h a ∧ lenFact h b
 | _ => True
def lensV (h : Heap) : AV → Prop
 | .pr a b => lensV h a ∧ lensV h b
 | a => lenFact h a
def Blk'.lens (h : Heap) : Blk' → Prop
 | .cells _ _ (.els l) => rowsFact (lensV h) l
 | .opt alive _ _ (.els l) => alive = true → rowsFact (lensV h) l
 | _ => True
structure Facts (st : St) : Prop where
 sl : ∀ t v, getK st.sl t = some v → v.fact ∧ lenFact st.h v
 h : ∀ b blk, getK st.h b = some blk → blk.fact
 ln : ∀ b blk, getK st.h b = some blk → blk.lens st.h
section
variable {N : Nat → Prop} {w : World}
theorem bytesOk_of (s : ByteArray) : bytesOk (bytesOf s) := by
 intro x hx
 unfold bytesOf at hx
 obtain ⟨b, _, rfl⟩ := List.mem_map.1 hx
 have := b.toNat_lt
 omega
theorem Tag.rel_fact : ∀ {t : Tag} {a : El t} {cs : List Value}, t.rel N w a cs → t.fact a
 | .int _, _, _, h => h.2
 | .bool, _, _, _ => trivial
 | .str, _, _, ⟨s, _, e⟩ => by subst e; exact bytesOk_of s
 | .nat _, _, _, h => h.2
 | .arr _ _, _, _, h => h.2
 | .nl, _, _, _ => trivial
 | .pr _ _, _, _, ⟨_, _, _, h1, h2⟩ => ⟨Tag.rel_fact h1, Tag.rel_fact h2⟩
 | .ints _, _, _, h => h.2
 | .rows _ t, xs, _, ⟨ys, h1, _⟩ => fun i y hy => by
  obtain ⟨_, c2, _, _, _, _, h, _⟩ := relList_at (xs := xs) h1 hy
  exact Tag.rel_fact h
theorem CV.rel_fact : ∀ {v : CV} {cs : List Value}, v.rel N w cs → v.fact
 | .int _ _, _, h => h.2
 | .bool _, _, _ => trivial
 | .str _, _, ⟨s, _, e⟩ => by subst e; exact bytesOk_of s
 | .raw _, _, _ => trivial
 | .nat _ _, _, h => h.2
 | .arr _ _ _, _, h => h.2
 | .nl, _, _ => trivial
 | .pr _ _, _, ⟨_, _, _, h1, h2⟩ => ⟨CV.rel_fact h1, CV.rel_fact h2⟩
 | .ints _ _, _, h => h.2
 | .rows _ t xs, _, ⟨ys, h1, _⟩ => fun i y hy => by
  obtain ⟨_, c2, _, _, _, _, h, _⟩ := relList_at (xs := xs) h1 hy
  exact Tag.rel_fact h
variable {ι : Nat → Option Loc}
theorem AV.rel_fact : ∀ {a : AV} {cs : List Value}, a.rel ι N w cs → a.fact
 | .c v, _, h => CV.rel_fact (v := v) h
 | .pr a b, _, ⟨_, _, _, h1, h2⟩ => ⟨AV.rel_fact (a := a) h1, AV.rel_fact (a := b) h2⟩
 | .t2 a b, _, ⟨v1, v2, _, h1, h2⟩ => by
  refine ⟨?_, ?_⟩
  ·cases e : a.isAgg with
   | true => rw [e] at h1; obtain ⟨x, _, h1⟩ := h1; exact AV.rel_fact (a := a) h1
   | false => rw [e] at h1; exact AV.rel_fact (a := a) h1
  ·cases e : b.isAgg with
   | true => rw [e] at h2; obtain ⟨x, _, h2⟩ := h2; exact AV.rel_fact (a := b) h2
   | false => rw [e] at h2; exact AV.rel_fact (a := b) h2
 | .t3 a b c', _, ⟨v1, v2, v3, _, h1, h2, h3⟩ => by
  refine ⟨?_, ?_, ?_⟩
  ·cases e : a.isAgg with
   | true => rw [e] at h1; obtain ⟨x, _, h1⟩ := h1; exact AV.rel_fact (a := a) h1
   | false => rw [e] at h1; exact AV.rel_fact (a := a) h1
  ·cases e : b.isAgg with
   | true => rw [e] at h2; obtain ⟨x, _, h2⟩ := h2; exact AV.rel_fact (a := b) h2
   | false => rw [e] at h2; exact AV.rel_fact (a := b) h2
  ·cases e : c'.isAgg with
   | true => rw [e] at h3; obtain ⟨x, _, h3⟩ := h3; exact AV.rel_fact (a := c') h3
   | false => rw [e] at h3; exact AV.rel_fact (a := c') h3
 | .ptr _ _ _ _, _, _ => trivial
 | .cp _ _ _, _, _ => trivial
 | .own _ _ _, _, _ => trivial
 | .sub _ _ _ _, _, _ => trivial
 | .inn _ _ _ _ _ _, _, _ => trivial
 | .t0, _, _ => trivial
 | .fn _ _, _, _ => trivial
 | .hd _ _, _, _ => trivial
theorem AV.val_fact {a : AV} {v : Value} (h : a.val ι N w v) : a.fact := by
 unfold AV.val at h
 cases e : a.isAgg with
 | true => rw [e] at h; obtain ⟨x, _, h⟩ := h; exact AV.rel_fact h
 | false => rw [e] at h; exact AV.rel_fact h
theorem Body.rel_fact {esz : Nat} : ∀ {b : Body} {cs : List Value}, b.rel ι N w esz cs → b.fact
 | .ints _ _, _, h => h.2.2
 | .rows t xs, _, h => fun i y hy => by
  obtain ⟨_, c2, _, _, _, _, h, _⟩ := relList_at (xs := xs) h hy
  exact Tag.rel_fact h
 | .els l, _, h => fun i y hy => by
  obtain ⟨_, c2, _, _, _, _, h, _⟩ := relList_at (xs := l) h hy
  exact AV.rel_fact h
theorem mapRel_fact {t : Tag} : ∀ {m : List (Int × El t)} {es : List MapEntry}, mapRel N w t m es → rowsFact (fun p => t.fact p.2) m
 | [], _, _ => fun i y h => by simp at h
 | p :: m, _, ⟨e, es', _, _, h2, h3⟩ => fun i y h => by
  cases i with
  | zero =>
   simp at h; subst h
   have : ∃ cs, (toCV t p.2).rel N w cs := by
    unfold asVal at h2
    split at h2
    ·obtain ⟨x, _, hx⟩ := h2; exact ⟨x, hx⟩
    ·exact ⟨_, h2⟩
   obtain ⟨cs, hc⟩ := this
   exact Tag.rel_fact ((toCV_rel t p.2 cs).1 hc)
  | succ i => exact mapRel_fact h3 i y (by simpa using h)
theorem mGet_fact {t : Tag} {z : El t} (hz : t.fact z) : ∀ {m : List (Int × El t)} {k : Int}, rowsFact (fun p => t.fact p.2) m → t.fact (mGet t m k z)
 | [], _, _ => hz
 | p :: m, k, h => by
  unfold mGet
  cases decide (p.1 = k) with
  | true => exact h 0 p rfl
  | false => exact mGet_fact (m := m) hz fun i y hy => h (i + 1) y (by simpa using hy)
theorem BlkRel.fact {L : Loc} : ∀ {b : Blk'}, BlkRel ι N w L b → b.fact
 | .cells _ _ body, .inl ⟨_, h, _⟩ => Body.rel_fact (b := body) h
 | .cells _ _ body, .inr ⟨_, _, _, _, h, _⟩ => Body.rel_fact (b := body) h.2.2.1
 | .map _ _, ⟨_, _, _, _, h, _⟩ => mapRel_fact h
 | .opt _ _ _ _, .inl ⟨h, _⟩ => fun e => by rw [h] at e; cases e
 | .opt _ _ _ body, .inr ⟨_, _, _, _, _, h, _⟩ => fun _ => Body.rel_fact (b := body) h.2.2.1
theorem BlkRel.len {L : Loc} {ty : TypeId} {e : Nat} {body : Body} (h : BlkRel ι N w L (.cells ty e body)) : body.len = L.len := by
 rcases h with ⟨_, _, h1, h2⟩ | ⟨_, _, _, _, h, _⟩
 ·rw [h1, h2]
 ·exact h.2.2.2
theorem lenFact_rel {h : Heap} (hb : ∀ b blk, getK h b = some blk → ∃ L, ι b = some L ∧ BlkRel ι N w L blk) : ∀ {a : AV} {cs : List Value}, a.rel ι N w cs → lenFact h a
 | .own b _ n, _, ⟨L, h1, h2, _⟩ => by
  unfold lenFact
  split
  ·rename_i ty e body hg
   obtain ⟨L', h3, h4⟩ := hb b _ hg
   rw [h1] at h3; injection h3 with h3; subst h3
   rw [h4.len, h2]
  ·trivial
 | .sub b _ i n, _, ⟨L, h1, h2, _⟩ => by
  unfold lenFact
  split
  ·rename_i ty e body hg
   obtain ⟨L', h3, h4⟩ := hb b _ hg
   rw [h1] at h3; injection h3 with h3; subst h3
   rw [h4.len]; exact h2
  ·trivial
 | .pr a b, _, ⟨_, _, _, h1, h2⟩ => ⟨lenFact_rel hb (a := a) h1, lenFact_rel hb (a := b) h2⟩
 | .c _, _, _ => trivial
 | .ptr _ _ _ _, _, _ => trivial
 | .cp _ _ _, _, _ => trivial
 | .inn _ _ _ _ _ _, _, _ => trivial
 | .t0, _, _ => trivial
 | .t2 _ _, _, _ => trivial
 | .t3 _ _ _, _, _ => trivial
 | .fn _ _, _, _ => trivial
 | .hd _ _, _, _ => trivial
end
section
variable {C : Ctx} {X : Snap}
theorem lensV_rel {h : Heap} {ι : Nat → Option Loc} {N : Nat → Prop} {w : World} (hb : ∀ b blk, getK h b = some blk → ∃ L, ι b = some L ∧ BlkRel ι N w L blk) : ∀ {v : AV} {cs : List Value}, v.rel ι N w cs → lensV h v
 | .pr a b, _, ⟨_, _, _, h1, h2⟩ => ⟨lensV_rel hb h1, lensV_rel hb h2⟩
 | .own _ _ _, _, h => lenFact_rel hb h
 | .sub _ _ _ _, _, h => lenFact_rel hb h
 | .c _, _, h => lenFact_rel hb h
 | .ptr _ _ _ _, _, h => lenFact_rel hb h
 | .cp _ _ _, _, h => lenFact_rel hb h
 | .inn _ _ _ _ _ _, _, h => lenFact_rel hb h
 | .t0, _, h => lenFact_rel hb h
 | .t2 _ _, _, h => lenFact_rel hb h
 | .t3 _ _ _, _, h => lenFact_rel hb h
 | .fn _ _, _, h => lenFact_rel hb h
 | .hd _ _, _, h => lenFact_rel hb h
theorem BlkRel.lens {h : Heap} {ι : Nat → Option Loc} {N : Nat → Prop} {w : World} (hb : ∀ b blk, getK h b = some blk → ∃ L, ι b = some L ∧ BlkRel ι N w L blk) {L : Loc} : ∀ {b : Blk'}, BlkRel ι N w L b → b.lens h
 | .cells _ _ (.els l), hr => fun i y hy => by
  rcases hr with ⟨_, h2, _⟩ | ⟨_, _, _, _, h2, _⟩
  ·obtain ⟨_, _, _, _, _, _, h, _⟩ := relList_at (xs := l) h2 hy
   exact lensV_rel hb h
  ·obtain ⟨_, _, _, _, _, _, h, _⟩ := relList_at (xs := l) h2.2.2.1 hy
   exact lensV_rel hb h
 | .cells _ _ (.ints _ _), _ => trivial
 | .cells _ _ (.rows _ _), _ => trivial
 | .map _ _, _ => trivial
 | .opt _ _ _ (.els l), hr => fun ha i y hy => by
  rcases hr with ⟨h1, _⟩ | ⟨_, _, _, _, _, h2, _⟩
  ·rw [ha] at h1; cases h1
  ·obtain ⟨_, _, _, _, _, _, h, _⟩ := relList_at (xs := l) h2.2.2.1 hy
   exact lensV_rel hb h
 | .opt _ _ _ (.ints _ _), _ => trivial
 | .opt _ _ _ (.rows _ _), _ => trivial
theorem facts_of {st : St} {a : Act} {w : World} (H : SRel C X st a w) : Facts st := by
 obtain ⟨ι, N, H⟩ := H
 have hb : ∀ b blk, getK st.h b = some blk → ∃ L, ι b = some L ∧ BlkRel ι N w L blk := fun b blk h => by
  obtain ⟨L, h1, h2, _⟩ := H.blks b blk h
  exact ⟨L, h1, h2⟩
 refine ⟨fun t v ht => ?_, fun b blk h => ?_, fun b blk h => ?_⟩
 ·have hv := H.slots t v ht
  refine ⟨AV.val_fact hv, ?_⟩
  unfold AV.val at hv
  cases e : v.isAgg with
  | true => rw [e] at hv; obtain ⟨x, _, hv⟩ := hv; exact lenFact_rel hb hv
  | false => rw [e] at hv; exact lenFact_rel hb hv
 ·obtain ⟨L, _, h2⟩ := hb b blk h
  exact BlkRel.fact h2
 ·obtain ⟨L, _, h2⟩ := hb b blk h
  exact BlkRel.lens hb h2
theorem walks_facts {st : St} {c : Code} {k : Exit → St → Prop} (h : Facts st → Walks C X c st k) : Walks C X c st k :=
 fun a w H => h (facts_of H) a w H
theorem fnOkF {f : FuncId} {F : FSpec} {Γ : Tab} {fn : Func} {c : Code} (hf : C.P.follows .mixedOrders = true) (hΓ : TabOk C Γ) (h1 : C.P.funcs[f]? = some fn) (h2 : fn.body = some c) (h3 : (fn.name == "runtime.NumGoroutine") = false)
  (h : ∀ as bl p o, F as bl = some (p, o) → Asked p → as.length ≤ fn.ntmps ∧ ∀ X : Snap, (∀ b L, X.ι b = some L → b < bl.length) → Facts (entry fn as bl) → ∃ cut fuel, Ev <| wpL C (opK C Γ) cut X fuel c (entry fn as bl) (exitK C fn bl.length o)) : FnOk C f F :=
 ⟨fn, c, h1, h2, h3, fun as bl p o hF hp => by
  obtain ⟨g1, g2⟩ := h as bl p o hF hp
  refine ⟨g1, fun X _ hX => walks_facts fun hfa => ?_⟩
  obtain ⟨cut, fuel, h⟩ := g2 X hX hfa
  replace h := h.out
  exact wpL_walks hf (opK_sound hΓ) fuel _ _ _ h⟩
end
end Go.Ab
