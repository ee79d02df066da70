import Derived.Test.YtdcganigfihkjaaDoorM5
import Derived.LaidLaws
/- Contracts that rest on what was proved without the abstract machine: closed values in, closed values out. -/
namespace Go.Ab
open Go Go.Chr Go.RowKit

def cvArgs : List AV → Option (List CV)
  | [] => some []
  | .c v :: l => match cvArgs l with
    | some vs => some (v :: vs)
    | none => none
  | _ => none
def trues : List AV → List Bool
  | [] => []
  | _ :: l => true :: trues l
/-- what is asked of closed arguments, and what comes -/
abbrev CSpec := List CV → Option (Option Prop × AV)
def flatC (F : CSpec) : Contract := fun as h nx k => match closeL h (trues as) as with
  | none => False
  | some (as1, rdc) => match cvArgs as1 with
    | none => False
    | some cs => match F cs with
      | none => False
      | some (p, v) => cond v.solid (asking p (k ⟨v, [], [], rdc⟩)) False
def cvsRel (N : Nat → Prop) (w : World) : List CV → List Value → Prop
  | [], vs => vs = []
  | a :: as, vs => ∃ v vs', vs = v :: vs' ∧ asVal a.isAgg (a.rel N w) v ∧ cvsRel N w as vs'
/-- the call answers so, wherever what it reads lies still -/
def CallOk (C : Ctx) (f : FuncId) (F : CSpec) : Prop := ∀ cs p v, F cs = some (p, v) → Asked p → ∀ (N : Nat → Prop) (w : World) (vs : List Value), Env C N w → cvsRel N w cs vs →
  CallOuts C.P f vs w fun u w' => Below w.heap.size w w' ∧ v.val (fun _ => none) N w u
section
variable {C : Ctx}
theorem cvArgs_rel {ι : Nat → Option Loc} {N : Nat → Prop} {w : World} : ∀ {as : List AV} {cs : List CV} {vs : List Value}, cvArgs as = some cs → valsRel ι N w as vs → cvsRel N w cs vs
  | [], cs, vs, h, hv => by
    injection h with h; subst h; exact hv
  | .c v :: l, cs, vs, h, ⟨u, vs', e, h1, h2⟩ => by
    unfold cvArgs at h
    split at h
    · rename_i vs2 h3
      injection h with h; subst h
      exact ⟨u, vs', e, h1, cvArgs_rel h3 h2⟩
    · cases h
  | .ptr _ _ _ _ :: _, _, _, h, _ => by cases h
  | .cp _ _ _ :: _, _, _, h, _ => by cases h
  | .own _ _ _ :: _, _, _, h, _ => by cases h
  | .sub _ _ _ _ :: _, _, _, h, _ => by cases h
  | .inn _ _ _ _ _ _ :: _, _, _, h, _ => by cases h
  | .pr _ _ :: _, _, _, h, _ => by cases h
  | .t0 :: _, _, _, h, _ => by cases h
  | .t2 _ _ :: _, _, _, h, _ => by cases h
  | .t3 _ _ _ :: _, _, _, h, _ => by cases h
  | .fn _ _ :: _, _, _, h, _ => by cases h
theorem AV.solid_any {ι ι' : Nat → Option Loc} {N N' : Nat → Prop} {w w' : World} : ∀ {a : AV} {v : Value}, a.solid = true → (∀ b L, ι b = some L → ι' b = some L) → a.val ι N w v → a.val ι' N' w' v
  | a, v, hs, hι, hv => by
    have h1 : a.val ι N' w' v := asVal.mono (fun _ hx => AV.rel_solid hs hx) hv
    have h2 : a.val ι' N' w' v := AV.val.mono (N := N') (N' := N') (w := w') (w' := w') hι (fun _ h => h) (fun _ _ => rfl) h1
    exact h2
theorem CallOuts.mono {P : Program} {f : FuncId} {vs : List Value} {w : World} {R R' : Value → World → Prop} (h : CallOuts P f vs w R) (hR : ∀ u w', R u w' → R' u w') : CallOuts P f vs w R' := by
  unfold CallOuts at *
  split at h
  · exact hR _ _ h
  · refine Calls.mono h ?_
    rintro e w'' he
    cases e with
    | returned u => exact hR _ _ he
    | _ => exact he.elim
  · exact h.elim
theorem flatC_ok {f : FuncId} {F : CSpec} (hF : CallOk C f F) : ContractOk C f (flatC F) := by
  refine ⟨fun args h nx k hk => ?_⟩
  unfold flatC at hk
  split at hk
  · exact hk.elim
  rename_i as1 rdc hcl
  split at hk
  · exact hk.elim
  rename_i cs hcs
  split at hk
  · exact hk.elim
  rename_i p v hv
  obtain ⟨hs, hk⟩ := cond_prop hk
  obtain ⟨hp, hk⟩ := asking_split hk
  refine ⟨_, ?_, OpR.ok_read rfl, ?_, hk⟩
  · intro ι N w vs hpre hvals
    let NB : Nat → Prop := fun k => ∃ q ∈ rdc, ∃ L, ι q.1 = some L ∧ L.ph = false ∧ k = L.blk
    let N0 : Nat → Prop := fun k => N k ∨ NB k
    have hN0 : ∀ k, N k → N0 k := fun k hk => .inl hk
    have hvals1 : valsRel ι N0 w as1 vs := (closeL_ok hcl).2 hN0 (fun q hq => by
      obtain ⟨L, h1, h2, _⟩ := hpre.rds q hq
      exact ⟨L, h1, h2, fun hph => .inr ⟨q, hq, L, h1, hph, rfl⟩⟩) vs hvals
    have henv : Env C N0 w := by
      refine ⟨?_, fun g blk hg => ?_⟩
      · rintro k (hk | ⟨q, hq, L, hL, hph, rfl⟩)
        · exact hpre.env.1 k hk
        · obtain ⟨L', h1, h2, _⟩ := hpre.rds q hq
          rw [hL] at h1; injection h1 with h1; subst h1
          exact h2.lt hph
      · obtain ⟨h1, ty, esz, body, xs, post, e, hl⟩ := hpre.env.2 g blk hg
        exact ⟨.inl h1, ty, esz, body, xs, post, e, hl.mono (fun _ _ h => h) hN0 (fun _ _ => rfl) rfl⟩
    refine (hF cs p v hv hp N0 w vs henv (cvArgs_rel hcs hvals1)).mono ?_
    rintro u w' ⟨hb, hu⟩
    have hP : Post ι N w ι N w' nx ⟨v, [], [], rdc⟩ := by
      constructor
      · exact fun _ _ h => h
      · exact fun _ _ h => .inl h
      · exact fun _ h => h
      · exact fun _ h => .inl h
      · exact fun k hk => Nat.lt_of_lt_of_le (hpre.env.1 k hk) hb.size
      · exact Upd.below hb _
      · intro b blk h; cases h
      · intro j blk h; simp at h
      · intro i j Li Lj hi; simp at hi
    exact ⟨ι, N, hP, AV.solid_any (ι := fun _ => none) hs (fun b L h => by cases h) hu⟩
  · intro q hq
    exact (closeL_ok (ι := fun _ => none) (w := default) hcl).1 q hq
/-- a function of the program -/
theorem callOuts_of {P : Program} {f : FuncId} {vs : List Value} {w : World} {R : Value → World → Prop} (hfn : (P.funcs[f]?).map (fun fn => (fn.name == "runtime.NumGoroutine", fn.body.isSome)) = some (false, true))
    (h : Calls P f vs.toArray w fun e w' => ∃ u, e = .returned u ∧ R u w') : CallOuts P f vs w R := by
  unfold CallOuts
  rw [run_call w hfn]
  refine Calls.mono h ?_
  rintro e w' ⟨u, rfl, hu⟩
  exact hu
/-- a function that the model has -/
theorem callOuts_value {P : Program} {f : FuncId} {vs : List Value} {w w' : World} {u : Value} {R : Value → World → Prop} (h : (callFunc f vs.toArray).run P w = .ok (.value u) w') (hR : R u w') : CallOuts P f vs w R := by
  unfold CallOuts
  rw [h]; exact hR
end
end Go.Ab
/- Functions: the rule, as the walks use it. -/
namespace Go.Ab
open Go Go.Chr Go.RowKit

section
variable {C : Ctx}
theorem TabOk.nil : TabOk C [] := fun _ _ h => by cases h
theorem TabOk.cons {f : FuncId} {F : Contract} {Γ : Tab} (h : ContractOk C f F) (t : TabOk C Γ) : TabOk C ((f, F) :: Γ) := by
  intro g G hg
  unfold getK at hg
  cases hb : Nat.beq g f with
  | true =>
    rw [hb] at hg
    injection hg with hg
    have := beqN hb
    subst this; subst hg
    exact h
  | false => rw [hb] at hg; exact t g G hg
theorem cond_intro {b : Bool} {p q : Prop} (h1 : b = true → p) (h2 : b = false → q) : cond b p q := by
  cases b with
  | true => exact h1 rfl
  | false => exact h2 rfl
/-- a value that is not evaluated -/
noncomputable def shut {α : Type} (a : α) : α := Classical.choose (⟨a, rfl⟩ : ∃ b, b = a)
theorem shut_eq {α : Type} (a : α) : shut a = a := Classical.choose_spec (⟨a, rfl⟩ : ∃ b, b = a)
theorem guard_some {α : Type 1} {b : Bool} {x : Option α} {y : α} (h : (bif b then x else none) = some y) : b = true ∧ x = some y := by
  cases b with
  | true => exact ⟨rfl, h⟩
  | false => cases h
theorem kto {p q : Prop} (h : p = q) (hq : q) : p := h ▸ hq
def bodyOf' (fn : Func) : Code := fn.body.getD .skip
theorem cond_at {b : Bool} {p q : Prop} (hb : b = true) (h : p) : cond b p q := by rw [hb]; exact h
theorem cond_no {b : Bool} {p q : Prop} (hb : b = false) (h : q) : cond b p q := by rw [hb]; exact h
/-- a function, by the walk through its body -/
theorem fnOk {f : FuncId} {F : FSpec} {Γ : Tab} {fn : Func} {c : Code} (hf : C.P.follows .mixedOrders = true) (hΓ : TabOk C Γ) (h1 : C.P.funcs[f]? = some fn) (h2 : fn.body = some c) (h3 : (fn.name == "runtime.NumGoroutine") = false)
    (h : ∀ as bl p o, F as bl = some (p, o) → Asked p → as.length ≤ fn.ntmps ∧ ∀ X : Snap, (∀ b L, X.ι b = some L → b < bl.length) → ∃ cut fuel, wpL C (opK C Γ) cut X fuel c (entry fn as bl) (exitK C fn bl.length o)) : FnOk C f F :=
  ⟨fn, c, h1, h2, h3, fun as bl p o hF hp => by
    obtain ⟨g1, g2⟩ := h as bl p o hF hp
    refine ⟨g1, fun X _ hX => ?_⟩
    obtain ⟨cut, fuel, h⟩ := g2 X hX
    exact wpL_walks hf (opK_sound hΓ) fuel _ _ _ h⟩
/-- a block of the code, by its number -/
def blockAt (id : Nat) : Code → Option Code
  | .block i b => bif Nat.beq i id then some b else blockAt id b
  | .seq a b => match blockAt id a with
    | some c => some c
    | none => blockAt id b
  | .cond _ a b => match blockAt id a with
    | some c => some c
    | none => blockAt id b
  | .loop b => blockAt id b
  | _ => none
def inLoop : Option Code → Code
  | some (.loop b) => b
  | some b => b
  | none => .skip
/-- what the loop does from the state I v, as long as P v: the round, and what is told behind it -/
theorem lok {X : Snap} {id : Nat} {b : Code} {L : LoopC} (h : ∀ st k, L st k → Walks C X (.block id (.loop b)) st k) : LOk C X id (.loop b) L := h
/-- the loop from st, in its plain make, ends in fin, or returns in fin -/
def loopN (m : Nat) (ls : List Nat) (start : St) (p : Prop) (fin : St) : LoopC := fun st k => canon m ls st = some start ∧ p ∧ k .normal fin
theorem loopN_ok {X : Snap} {m : Nat} {ls : List Nat} {start fin : St} {p : Prop} {id : Nat} {b : Code} (hX : ∀ b L, X.ι b = some L → b < m)
    (h : p → ∀ k : Exit → St → Prop, k .normal fin → Walks C X (.block id b) start k) : LOk C X id b (loopN m ls start p fin) :=
  fun _ k ⟨h1, h2, h3⟩ => (h h2 k h3).canon hX h1
end
end Go.Ab
/- What a state tells of the values that it names. -/
namespace Go.Ab
open Go Go.Chr Go.RowKit

def bytesOk (l : List Int) : Prop := ∀ x ∈ l, 0 ≤ x ∧ x < 256
def natFact (m x : Nat) : Prop := x < m ∧ m ≤ two256
def intsFact (k : IntKind) (l : List Int) : Prop := ∀ x ∈ l, okI k x
def arrFact (k : IntKind) (n : Nat) (l : List Int) : Prop := l.length = n ∧ ∀ x ∈ l, okI k x
def rowsFact.{u} {α : Type u} (p : α → Prop) (xs : List α) : Prop := ∀ (i : Nat) (y : α), xs[i]? = some y → p y
def Tag.fact : (t : Tag) → El t → Prop
  | .int k, n => okI k n
  | .bool, _ => True
  | .str, l => bytesOk l
  | .nat m, x => natFact m x
  | .arr k n, l => arrFact k n l
  | .nl, _ => True
  | .pr a b, p => a.fact p.1 ∧ b.fact p.2
  | .ints k, l => intsFact k l
  | .rows _ t, xs => rowsFact t.fact xs
def CV.fact : CV → Prop
  | .int k n => okI k n
  | .bool _ => True
  | .str l => bytesOk l
  | .raw _ => True
  | .nat m x => natFact m x
  | .arr k n l => arrFact k n l
  | .nl => True
  | .pr a b => a.fact ∧ b.fact
  | .ints k l => intsFact k l
  | .rows _ t xs => rowsFact t.fact xs
def AV.fact : AV → Prop
  | .c v => v.fact
  | .pr a b => a.fact ∧ b.fact
  | .t2 a b => a.fact ∧ b.fact
  | .t3 a b e => a.fact ∧ b.fact ∧ e.fact
  | _ => True
def Body.fact : Body → Prop
  | .ints k l => intsFact k l
  | .rows t xs => rowsFact t.fact xs
  | .els l => rowsFact AV.fact l
def Blk'.fact : Blk' → Prop
  | .cells _ _ b => b.fact
  | .map _ => True
def lenFact (h : Heap) : AV → Prop
  | .own b _ n => match getK h b with
    | some (.cells _ _ body) => n = body.len
    | _ => True
  | .sub b _ i n => match getK h b with
    | some (.cells _ _ body) => i + n ≤ body.len
    | _ => True
  | .pr a b => lenFact h a ∧ lenFact h b
  | _ => True
structure Facts (st : St) : Prop where
  sl : ∀ t v, getK st.sl t = some v → v.fact ∧ lenFact st.h v
  h : ∀ b blk, getK st.h b = some blk → blk.fact

section
variable {N : Nat → Prop} {w : World}
theorem bytesOk_of (s : ByteArray) : bytesOk (bytesOf s) := by
  intro x hx
  unfold bytesOf at hx
  obtain ⟨b, _, rfl⟩ := List.mem_map.1 hx
  have := b.toNat_lt
  omega
theorem Tag.rel_fact : ∀ {t : Tag} {a : El t} {cs : List Value}, t.rel N w a cs → t.fact a
  | .int _, _, _, h => h.2
  | .bool, _, _, _ => trivial
  | .str, _, _, ⟨s, _, e⟩ => by subst e; exact bytesOk_of s
  | .nat _, _, _, h => h.2
  | .arr _ _, _, _, h => h.2
  | .nl, _, _, _ => trivial
  | .pr _ _, _, _, ⟨_, _, _, h1, h2⟩ => ⟨Tag.rel_fact h1, Tag.rel_fact h2⟩
  | .ints _, _, _, h => h.2
  | .rows _ t, xs, _, ⟨ys, h1, _⟩ => fun i y hy => by
    obtain ⟨_, c2, _, _, _, _, h, _⟩ := relList_at (xs := xs) h1 hy
    exact Tag.rel_fact h
theorem CV.rel_fact : ∀ {v : CV} {cs : List Value}, v.rel N w cs → v.fact
  | .int _ _, _, h => h.2
  | .bool _, _, _ => trivial
  | .str _, _, ⟨s, _, e⟩ => by subst e; exact bytesOk_of s
  | .raw _, _, _ => trivial
  | .nat _ _, _, h => h.2
  | .arr _ _ _, _, h => h.2
  | .nl, _, _ => trivial
  | .pr _ _, _, ⟨_, _, _, h1, h2⟩ => ⟨CV.rel_fact h1, CV.rel_fact h2⟩
  | .ints _ _, _, h => h.2
  | .rows _ t xs, _, ⟨ys, h1, _⟩ => fun i y hy => by
    obtain ⟨_, c2, _, _, _, _, h, _⟩ := relList_at (xs := xs) h1 hy
    exact Tag.rel_fact h
variable {ι : Nat → Option Loc}
theorem AV.rel_fact : ∀ {a : AV} {cs : List Value}, a.rel ι N w cs → a.fact
  | .c v, _, h => CV.rel_fact (v := v) h
  | .pr a b, _, ⟨_, _, _, h1, h2⟩ => ⟨AV.rel_fact (a := a) h1, AV.rel_fact (a := b) h2⟩
  | .t2 a b, _, ⟨v1, v2, _, h1, h2⟩ => by
    refine ⟨?_, ?_⟩
    · cases e : a.isAgg with
      | true => rw [e] at h1; obtain ⟨x, _, h1⟩ := h1; exact AV.rel_fact (a := a) h1
      | false => rw [e] at h1; exact AV.rel_fact (a := a) h1
    · cases e : b.isAgg with
      | true => rw [e] at h2; obtain ⟨x, _, h2⟩ := h2; exact AV.rel_fact (a := b) h2
      | false => rw [e] at h2; exact AV.rel_fact (a := b) h2
  | .t3 a b c', _, ⟨v1, v2, v3, _, h1, h2, h3⟩ => by
    refine ⟨?_, ?_, ?_⟩
    · cases e : a.isAgg with
      | true => rw [e] at h1; obtain ⟨x, _, h1⟩ := h1; exact AV.rel_fact (a := a) h1
      | false => rw [e] at h1; exact AV.rel_fact (a := a) h1
    · cases e : b.isAgg with
      | true => rw [e] at h2; obtain ⟨x, _, h2⟩ := h2; exact AV.rel_fact (a := b) h2
      | false => rw [e] at h2; exact AV.rel_fact (a := b) h2
    · cases e : c'.isAgg with
      | true => rw [e] at h3; obtain ⟨x, _, h3⟩ := h3; exact AV.rel_fact (a := c') h3
      | false => rw [e] at h3; exact AV.rel_fact (a := c') h3
  | .ptr _ _ _ _, _, _ => trivial
  | .cp _ _ _, _, _ => trivial
  | .own _ _ _, _, _ => trivial
  | .sub _ _ _ _, _, _ => trivial
  | .inn _ _ _ _ _ _, _, _ => trivial
  | .t0, _, _ => trivial
  | .fn _ _, _, _ => trivial
theorem AV.val_fact {a : AV} {v : Value} (h : a.val ι N w v) : a.fact := by
  unfold AV.val at h
  cases e : a.isAgg with
  | true => rw [e] at h; obtain ⟨x, _, h⟩ := h; exact AV.rel_fact h
  | false => rw [e] at h; exact AV.rel_fact h
theorem Body.rel_fact {esz : Nat} : ∀ {b : Body} {cs : List Value}, b.rel ι N w esz cs → b.fact
  | .ints _ _, _, h => h.2.2
  | .rows t xs, _, h => fun i y hy => by
    obtain ⟨_, c2, _, _, _, _, h, _⟩ := relList_at (xs := xs) h hy
    exact Tag.rel_fact h
  | .els l, _, h => fun i y hy => by
    obtain ⟨_, c2, _, _, _, _, h, _⟩ := relList_at (xs := l) h hy
    exact AV.rel_fact h
theorem BlkRel.fact {L : Loc} : ∀ {b : Blk'}, BlkRel ι N w L b → b.fact
  | .cells _ _ body, .inl ⟨_, h, _⟩ => Body.rel_fact (b := body) h
  | .cells _ _ body, .inr ⟨_, _, _, _, h, _⟩ => Body.rel_fact (b := body) h.2.2.1
  | .map _, _ => trivial
theorem BlkRel.len {L : Loc} {ty : TypeId} {e : Nat} {body : Body} (h : BlkRel ι N w L (.cells ty e body)) : body.len = L.len := by
  rcases h with ⟨_, _, h1, h2⟩ | ⟨_, _, _, _, h, _⟩
  · rw [h1, h2]
  · exact h.2.2.2
theorem lenFact_rel {h : Heap} (hb : ∀ b blk, getK h b = some blk → ∃ L, ι b = some L ∧ BlkRel ι N w L blk) : ∀ {a : AV} {cs : List Value}, a.rel ι N w cs → lenFact h a
  | .own b _ n, _, ⟨L, h1, h2, _⟩ => by
    unfold lenFact
    split
    · rename_i ty e body hg
      obtain ⟨L', h3, h4⟩ := hb b _ hg
      rw [h1] at h3; injection h3 with h3; subst h3
      rw [h4.len, h2]
    · trivial
  | .sub b _ i n, _, ⟨L, h1, h2, _⟩ => by
    unfold lenFact
    split
    · rename_i ty e body hg
      obtain ⟨L', h3, h4⟩ := hb b _ hg
      rw [h1] at h3; injection h3 with h3; subst h3
      rw [h4.len]; exact h2
    · trivial
  | .pr a b, _, ⟨_, _, _, h1, h2⟩ => ⟨lenFact_rel hb (a := a) h1, lenFact_rel hb (a := b) h2⟩
  | .c _, _, _ => trivial
  | .ptr _ _ _ _, _, _ => trivial
  | .cp _ _ _, _, _ => trivial
  | .inn _ _ _ _ _ _, _, _ => trivial
  | .t0, _, _ => trivial
  | .t2 _ _, _, _ => trivial
  | .t3 _ _ _, _, _ => trivial
  | .fn _ _, _, _ => trivial
end
section
variable {C : Ctx} {X : Snap}
theorem facts_of {st : St} {a : Act} {w : World} (H : SRel C X st a w) : Facts st := by
  obtain ⟨ι, N, H⟩ := H
  have hb : ∀ b blk, getK st.h b = some blk → ∃ L, ι b = some L ∧ BlkRel ι N w L blk := fun b blk h => by
    obtain ⟨L, h1, h2, _⟩ := H.blks b blk h
    exact ⟨L, h1, h2⟩
  refine ⟨fun t v ht => ?_, fun b blk h => ?_⟩
  · have hv := H.slots t v ht
    refine ⟨AV.val_fact hv, ?_⟩
    unfold AV.val at hv
    cases e : v.isAgg with
    | true => rw [e] at hv; obtain ⟨x, _, hv⟩ := hv; exact lenFact_rel hb hv
    | false => rw [e] at hv; exact lenFact_rel hb hv
  · obtain ⟨L, _, h2⟩ := hb b blk h
    exact BlkRel.fact h2
theorem walks_facts {st : St} {c : Code} {k : Exit → St → Prop} (h : Facts st → Walks C X c st k) : Walks C X c st k :=
  fun a w H => h (facts_of H) a w H
/-- a function, by the walk through its body; what the arguments are tells something of them -/
theorem fnOkF {f : FuncId} {F : FSpec} {Γ : Tab} {fn : Func} {c : Code} (hf : C.P.follows .mixedOrders = true) (hΓ : TabOk C Γ) (h1 : C.P.funcs[f]? = some fn) (h2 : fn.body = some c) (h3 : (fn.name == "runtime.NumGoroutine") = false)
    (h : ∀ as bl p o, F as bl = some (p, o) → Asked p → as.length ≤ fn.ntmps ∧ ∀ X : Snap, (∀ b L, X.ι b = some L → b < bl.length) → Facts (entry fn as bl) → ∃ cut fuel, wpL C (opK C Γ) cut X fuel c (entry fn as bl) (exitK C fn bl.length o)) : FnOk C f F :=
  ⟨fn, c, h1, h2, h3, fun as bl p o hF hp => by
    obtain ⟨g1, g2⟩ := h as bl p o hF hp
    refine ⟨g1, fun X _ hX => walks_facts fun hfa => ?_⟩
    obtain ⟨cut, fuel, h⟩ := g2 X hX hfa
    exact wpL_walks hf (opK_sound hΓ) fuel _ _ _ h⟩
/-- the rounds of a loop, walked -/
theorem loop_rounds {Γ : Tab} (hf : C.P.follows .mixedOrders = true) (hΓ : TabOk C Γ) {m : Nat} {ls : List Nat} {α : Type} (I : α → St) (P : α → Prop) (μ : α → Nat) {id : Nat} {b : Code} {k : Exit → St → Prop} (hX : ∀ b L, X.ι b = some L → b < m)
    (round : ∀ v, P v → Facts (I v) → ∃ cut fuel, wpL C (opK C Γ) cut X fuel b (I v) (thenK (fun st' => ∃ v', canon m ls st' = some (I v') ∧ μ v' < μ v ∧ P v') (blockK id k))) :
    ∀ v, P v → Walks C X (.block id (.loop b)) (I v) k :=
  walks_while (ls := ls) I P μ hX fun v hv => walks_facts fun hfa => by
    obtain ⟨cut, fuel, h⟩ := round v hv hfa
    refine Walks.mono (wpL_walks hf (opK_sound hΓ) fuel _ _ _ h) ?_
    intro e st' h'
    cases e with
    | normal =>
      obtain ⟨v', h1, h2, h3⟩ := h'
      exact ⟨v', h2, h3, h1⟩
    | exit i => exact h'
    | goto l => exact h'
    | ret => exact h'
    | panic ch => exact h'
    | outgrown => exact h'
end
end Go.Ab
/- Loops, as the walks use them. -/
namespace Go.Ab
open Go Go.Chr Go.RowKit

/-- where a slice stands: in a slot; in the value of a block, at an offset. z: what it is, if it is nil -/
inductive Path : Type 1 where
  | slot (t : Nat) (z : Option (TypeId × Nat × Body) := none)
  | blk (b off : Nat) (z : Option (TypeId × Nat × Body) := none)
def emptyB (e : Nat) : Body → Bool
  | .ints _ [] => Nat.beq e 1
  | .rows _ [] => true
  | .els [] => true
  | _ => false
def heapD (h : Heap) : Option Nat → Heap
  | some b => delK b h
  | none => h
/-- a part of own memory, taken for a slice of its own: the rest is no one's any more; nil, taken for a slice of no memory -/
def reVal (st : St) (z : Option (TypeId × Nat × Body)) : AV → Option (Option (Option Nat × Blk' × AV))
  | .sub b e i n => match getK st.h b with
    | some (.cells ty e' body) => bif Nat.beq e e' then some (some (some b, .cells ty e (cutB i n body), .own st.nx e n)) else none
    | _ => none
  | .c (.raw (.slice none 0 0)) => match z with
    | some (ty, e, body) => bif emptyB e body then some (some (none, .cells ty e body, .own st.nx e 0)) else none
    | none => some none
  | _ => some none
def reS (st : St) (t : Nat) (z : Option (TypeId × Nat × Body)) : Option St := match getK st.sl t with
  | some v => match reVal st z v with
    | some (some (d, nb, u)) => some ⟨setK t u st.sl, setK st.nx nb (heapD st.h d), st.nx + 1, st.nt⟩
    | some none => some st
    | none => none
  | none => none
def isB (b : Nat) : Option Nat → Bool
  | some c => Nat.beq b c
  | none => false
def reB (st : St) (b0 off : Nat) (z : Option (TypeId × Nat × Body)) : Option St := match getK st.h b0 with
  | some (.cells ty0 e0 (.els [v])) => match subT v off 1 with
    | some x => match reVal st z x with
      | some (some (d, nb, u)) => bif !isB b0 d && Nat.ble (off + 1) v.size then (match setT (expandA v) off u with
          | some v' => some ⟨st.sl, setK b0 (.cells ty0 e0 (.els [v'])) (setK st.nx nb (heapD st.h d)), st.nx + 1, st.nt⟩
          | none => none) else none
      | some none => some st
      | none => none
    | none => none
  | some _ => some st
  | none => none
def re1 (st : St) : Path → Option St
  | .slot t z => reS st t z
  | .blk b0 off z => reB st b0 off z
def reown : List Path → St → Option St
  | [], st => some st
  | p :: ps, st => match re1 st p with
    | some st' => reown ps st'
    | none => none
def canonR (m : Nat) (ps : List Path) (ls : List Nat) (st : St) : Option St := match reown ps st with
  | some st' => canon m ls st'
  | none => none
section
variable {C : Ctx} {X : Snap}
/-- the new place of a part -/
theorem sub_own {ι : Nat → Option Loc} {N : Nat → Prop} {w : World} {b e i n : Nat} {cs : List Value} {L : Loc} {ty : TypeId} {body : Body} (hL : ι b = some L) (hb : BlkRel ι N w L (.cells ty e body)) (hs : (AV.sub b e i n).rel ι N w cs) :
    ∃ L', (L'.ph = false → L.ph = false ∧ L'.blk = L.blk) ∧ BlkRel ι N w L' (.cells ty e (cutB i n body)) ∧ ∀ (ι' : Nat → Option Loc) (k : Nat), ι' k = some L' → (AV.own k e n).rel ι' N w cs := by
  obtain ⟨L2, h1, hin, hs⟩ := hs
  rw [hL] at h1; injection h1 with h1; subst h1
  have hlen := BlkRel.len hb
  have ph : ∀ (A : Option Addr), n = 0 → cs = [.slice A 0 0] → (∃ xs, body.rel ι N w e xs) → ∃ L', (L'.ph = false → L.ph = false ∧ L'.blk = L.blk) ∧ BlkRel ι N w L' (.cells ty e (cutB i n body)) ∧ ∀ (ι' : Nat → Option Loc) (k : Nat), ι' k = some L' → (AV.own k e n).rel ι' N w cs := by
    rintro A rfl rfl ⟨xs, hx⟩
    have h2 := cutB_rel (i := i) (n := 0) hx
    simp only [Nat.zero_mul, List.take_zero] at h2
    exact ⟨⟨0, 0, 0, 0, true⟩, (fun h => by cases h), .inl ⟨rfl, h2, cutB_len (by omega), rfl⟩, fun ι' k hk => ⟨_, hk, rfl, .inl ⟨rfl, rfl, A, rfl⟩⟩⟩
  have hbody : ∃ xs, body.rel ι N w e xs := by
    rcases hb with ⟨_, h, _⟩ | ⟨_, _, xs, _, h, _⟩
    · exact ⟨[], h⟩
    · exact ⟨xs, h.2.2.1⟩
  rcases hs with ⟨_, h0, A, rfl⟩ | ⟨hph, A, c, rfl, hc, hAb, hAs, hA⟩
  · exact ph A h0 rfl hbody
  · rcases Nat.eq_zero_or_pos c with h0 | h0
    · subst h0
      have hn : n = 0 := by omega
      subst hn
      exact ph (some A) rfl rfl hbody
    · obtain ⟨a1, a2⟩ := hA h0
      rcases hb with ⟨hp', _⟩ | ⟨_, pre, xs, post, hl, ht⟩
      · rw [hph] at hp'; cases hp'
      · have hx := hl.2.2.1
        have hxl := hx.len
        have hbl := hl.2.2.2
        have hcut := cutB_rel (i := i) (n := n) hx
        have h5 : i * e + n * e ≤ xs.length := by
          rw [hxl, ← Nat.add_mul]
          exact Nat.mul_le_mul_right _ (by omega)
        refine ⟨⟨L.blk, L.off + i * e, L.tot, n, false⟩, fun _ => ⟨hph, rfl⟩, .inr ⟨rfl, pre ++ xs.take (i * e), (xs.drop (i * e)).take (n * e), (xs.drop (i * e)).drop (n * e) ++ post, ⟨?_, ?_, hcut, cutB_len (by omega)⟩, ?_⟩, fun ι' k hk => ⟨_, hk, rfl, .inr ⟨rfl, c, ?_, hc, ?_⟩⟩⟩
        · have : pre ++ xs.take (i * e) ++ ((xs.drop (i * e)).take (n * e) ++ ((xs.drop (i * e)).drop (n * e) ++ post)) = pre ++ (xs ++ post) := by
            rw [← List.append_assoc ((xs.drop (i * e)).take (n * e)), List.take_append_drop, List.append_assoc, ← List.append_assoc (xs.take (i * e)), List.take_append_drop]
          rw [this]; exact hl.1
        · rw [List.length_append, hl.2.1, List.length_take]
          show L.off + min (i * e) xs.length = L.off + i * e
          omega
        · rw [← ht]
          simp only [List.length_append, List.length_take, List.length_drop]
          omega
        · rw [eta_addr hAb hAs a1]
        · show L.off + i * e + c * e ≤ L.tot
          omega
theorem rel_new {st : St} {ι : Nat → Option Loc} {N : Nat → Prop} {a : Act} {w : World} (H : Rel C X ι N st a w) (L' : Loc) : (∀ b L, ι b = some L → addι ι st.nx L' b = some L) := by
  intro b L h
  have : b < st.nx := H.fresh b L h
  unfold addι
  rw [if_neg (by omega)]; exact h
theorem empty_rel {ι : Nat → Option Loc} {N : Nat → Prop} {w : World} {e : Nat} : ∀ {b : Body}, emptyB e b = true → b.rel ι N w e [] ∧ b.len = 0
  | .ints _ [], h => ⟨⟨beqN h, rfl, fun x hx => by cases hx⟩, rfl⟩
  | .rows _ [], _ => ⟨rfl, rfl⟩
  | .els [], _ => ⟨rfl, rfl⟩
  | .ints _ (_ :: _), h => by cases h
  | .rows _ (_ :: _), h => by cases h
  | .els (_ :: _), h => by cases h
theorem re_core {st : St} {ι : Nat → Option Loc} {N : Nat → Prop} {a : Act} {w : World} (H : Rel C X ι N st a w) (d : Option Nat) (L' : Loc) (nb : Blk') (hnb : BlkRel ι N w L' nb)
    (hp : L'.ph = false → ∃ b L blk, d = some b ∧ getK st.h b = some blk ∧ ι b = some L ∧ L.ph = false ∧ L'.blk = L.blk) :
    Rel C X (addι ι st.nx L') N ⟨st.sl, setK st.nx nb (heapD st.h d), st.nx + 1, st.nt⟩ a w := by
  have hold := rel_new H L'
  have hdel : ∀ b blk, getK (heapD st.h d) b = some blk → getK st.h b = some blk ∧ d ≠ some b := by
    intro b blk h
    cases d with
    | none => exact ⟨h, fun e => by cases e⟩
    | some c =>
      have h : getK (delK c st.h) b = some blk := h
      rw [getK_delK] at h
      split at h
      · cases h
      · rename_i hc; exact ⟨h, fun e => by injection e with e; exact hc e⟩
  have hget : ∀ b blk, getK (setK st.nx nb (heapD st.h d)) b = some blk → (b = st.nx ∧ blk = nb) ∨ (b ≠ st.nx ∧ getK st.h b = some blk ∧ d ≠ some b) := by
    intro b blk h
    rw [getK_setK] at h
    split at h
    · rename_i e; injection h with h; exact .inl ⟨e.symm, h.symm⟩
    · rename_i e; obtain ⟨h1, h2⟩ := hdel b blk h; exact .inr ⟨fun e2 => e e2.symm, h1, h2⟩
  refine ⟨fun s v hs => (H.slots s v hs).mono hold (fun _ h => h) (fun _ _ => rfl), ?_, ?_, H.env, ?_, H.n0, H.nN, fun b' L2 h => hold b' L2 (H.i0 b' L2 h), H.upd, H.size, H.ds⟩
  · intro b blk h
    rcases hget b blk h with ⟨rfl, rfl⟩ | ⟨_, h, _⟩
    · refine ⟨L', by simp [addι], hnb.mono hold (fun _ h => h) (fun _ _ => rfl) (fun _ => rfl), fun hph => ?_⟩
      obtain ⟨b, L, blk, rfl, h1, h2, h3, h4⟩ := hp hph
      obtain ⟨L2, m1, _, m3⟩ := H.blks b blk h1
      rw [h2] at m1; injection m1 with m1; subst m1
      rw [h4]; exact m3 h3
    · obtain ⟨L2, m1, m2, m3⟩ := H.blks b blk h
      exact ⟨L2, hold _ _ m1, m2.mono hold (fun _ h => h) (fun _ _ => rfl) (fun _ => rfl), m3⟩
  · have hnm : ∀ b' blk L2, getK (setK st.nx nb (heapD st.h d)) b' = some blk → addι ι st.nx L' b' = some L2 → L2.ph = false →
        ∃ b'' blk'' L3, getK st.h b'' = some blk'' ∧ ι b'' = some L3 ∧ L3.ph = false ∧ L3.blk = L2.blk ∧ ((b' = st.nx ∧ d = some b'') ∨ (b' ≠ st.nx ∧ d ≠ some b' ∧ b'' = b')) := by
      intro b' blk L2 hg h2 hp2
      rcases hget b' blk hg with ⟨rfl, rfl⟩ | ⟨n1, hg, n3⟩
      · have h2 : L' = L2 := by simpa [addι] using h2
        subst h2
        obtain ⟨b, L, blk, h0, h1, h2, h3, h4⟩ := hp hp2
        exact ⟨b, blk, L, h1, h2, h3, h4.symm, .inl ⟨rfl, h0⟩⟩
      · unfold addι at h2
        rw [if_neg n1] at h2
        exact ⟨_, _, L2, hg, h2, hp2, rfl, .inr ⟨n1, n3, rfl⟩⟩
    intro b1 b2 blk1 blk2 L1 L2 hg1 hg2 hne h1 h2 hp1 hp2
    obtain ⟨c1', d1, M1, g1, i1, r1, e1, o1⟩ := hnm b1 blk1 L1 hg1 h1 hp1
    obtain ⟨c2', d2, M2, g2, i2, r2, e2, o2⟩ := hnm b2 blk2 L2 hg2 h2 hp2
    rw [← e1, ← e2]
    refine H.inj c1' c2' d1 d2 M1 M2 g1 g2 ?_ i1 i2 r1 r2
    rcases o1 with ⟨u1, u2⟩ | ⟨u1, u2, u3⟩ <;> rcases o2 with ⟨v1, v2⟩ | ⟨v1, v2, v3⟩
    · exact absurd (u1.trans v1.symm) hne
    · rw [v3]; exact fun e => v2 (by rw [← e]; exact u2)
    · rw [u3]; exact fun e => u2 (by rw [e]; exact v2)
    · rw [u3, v3]; exact hne
  · intro b' L2 h2
    unfold addι at h2
    split at h2
    · rename_i eb; subst eb; show st.nx < st.nx + 1; omega
    · have := H.fresh b' L2 h2
      show b' < st.nx + 1; omega
theorem slot_core {st : St} {ι : Nat → Option Loc} {N : Nat → Prop} {a : Act} {w : World} (H : Rel C X ι N st a w) {t : Nat} {u : AV} (hu : u.val ι N w (a.tmps.getD t undef)) : Rel C X ι N ⟨setK t u st.sl, st.h, st.nx, st.nt⟩ a w := by
  refine ⟨?_, H.blks, H.inj, H.env, H.fresh, H.n0, H.nN, H.i0, H.upd, H.size, H.ds⟩
  intro s v hs
  have hs : getK (setK t u st.sl) s = some v := hs
  rw [getK_setK] at hs
  split at hs
  · rename_i e; injection hs with hs; subst hs; subst e; exact hu
  · exact H.slots s v hs
theorem blk_core {st : St} {ι : Nat → Option Loc} {N : Nat → Prop} {a : Act} {w : World} (H : Rel C X ι N st a w) {b : Nat} {blk blk' : Blk'} (hb : getK st.h b = some blk) (h : ∀ L, ι b = some L → BlkRel ι N w L blk → BlkRel ι N w L blk') : Rel C X ι N ⟨st.sl, setK b blk' st.h, st.nx, st.nt⟩ a w := by
  have hget : ∀ c x, getK (setK b blk' st.h) c = some x → ∃ y, getK st.h c = some y ∧ (c = b ∧ x = blk' ∨ c ≠ b ∧ x = y) := by
    intro c x hx
    rw [getK_setK] at hx
    split at hx
    · rename_i e; injection hx with hx; subst e; exact ⟨blk, hb, .inl ⟨rfl, hx.symm⟩⟩
    · rename_i e; exact ⟨x, hx, .inr ⟨fun e2 => e e2.symm, rfl⟩⟩
  refine ⟨H.slots, ?_, ?_, H.env, H.fresh, H.n0, H.nN, H.i0, H.upd, H.size, H.ds⟩
  · intro c x hx
    obtain ⟨y, hy, hc⟩ := hget c x hx
    obtain ⟨L, m1, m2, m3⟩ := H.blks c y hy
    rcases hc with ⟨rfl, rfl⟩ | ⟨_, rfl⟩
    · rw [hb] at hy; injection hy with hy; subst hy
      exact ⟨L, m1, h L m1 m2, m3⟩
    · exact ⟨L, m1, m2, m3⟩
  · intro b1 b2 x1 x2 L1 L2 h1 h2 hne
    obtain ⟨y1, k1, _⟩ := hget b1 x1 h1
    obtain ⟨y2, k2, _⟩ := hget b2 x2 h2
    exact H.inj b1 b2 y1 y2 L1 L2 k1 k2 hne
theorem reVal_ok {st : St} {ι : Nat → Option Loc} {N : Nat → Prop} {a : Act} {w : World} (H : Rel C X ι N st a w) {z : Option (TypeId × Nat × Body)} {v u : AV} {d : Option Nat} {nb : Blk'} (h : reVal st z v = some (some (d, nb, u))) {x : Value} (hv : v.rel ι N w [x]) :
    (∃ L', BlkRel ι N w L' nb ∧ (L'.ph = false → ∃ b L blk, d = some b ∧ getK st.h b = some blk ∧ ι b = some L ∧ L.ph = false ∧ L'.blk = L.blk) ∧ ∀ (ι' : Nat → Option Loc), ι' st.nx = some L' → u.rel ι' N w [x]) ∧ u.isAgg = false ∧ u.size = 1 ∧ ∃ e n, u = .own st.nx e n := by
  unfold reVal at h
  split at h
  · rename_i b e i n
    split at h
    · rename_i ty e' body hb
      cases he : Nat.beq e e' with
      | false => rw [he] at h; cases h
      | true =>
      rw [he] at h
      have := beqN he; subst this
      injection h with h; injection h with h; injection h with h1 h2; injection h2 with h2 h3; subst h1; subst h2; subst h3
      obtain ⟨L, l1, l2, l3⟩ := H.blks b _ hb
      obtain ⟨L', k1, k2, k3⟩ := sub_own l1 l2 hv
      exact ⟨⟨L', k2, fun hph => ⟨b, L, _, rfl, hb, l1, (k1 hph).1, (k1 hph).2⟩, fun ι' hi => k3 ι' _ hi⟩, rfl, rfl, e, n, rfl⟩
    · cases h
  · split at h
    · rename_i ty e body
      cases hem : emptyB e body with
      | false => rw [hem] at h; cases h
      | true =>
      rw [hem] at h
      injection h with h; injection h with h; injection h with h1 h2; injection h2 with h2 h3; subst h1; subst h2; subst h3
      obtain ⟨g1, g2⟩ := empty_rel (ι := ι) (N := N) (w := w) hem
      refine ⟨⟨⟨0, 0, 0, 0, true⟩, .inl ⟨rfl, g1, g2, rfl⟩, (fun hph => by cases hph), fun ι' hi => ⟨_, hi, rfl, .inl ⟨rfl, rfl, none, ?_⟩⟩⟩, rfl, rfl, e, 0, rfl⟩
      obtain ⟨hx, _⟩ : [x] = [Value.slice none 0 0] ∧ _ := hv
      exact hx
    · cases h
  · cases h
theorem re1_rel {st st' : St} {p : Path} {a : Act} {w : World} (h : re1 st p = some st') (H : SRel C X st a w) : SRel C X st' a w := by
  obtain ⟨ι, N, H⟩ := H
  cases p with
  | slot t z =>
    have h : reS st t z = some st' := h
    unfold reS at h
    split at h
    · rename_i v ht
      split at h
      · rename_i d nb u hre
        injection h with h; subst h
        have hv := H.slots t _ ht
        have hag : v.isAgg = false := by
          unfold reVal at hre
          split at hre
          · rfl
          · rfl
          · cases hre
        have hvr : v.rel ι N w [a.tmps.getD t undef] := by unfold AV.val at hv; rw [hag] at hv; exact hv
        obtain ⟨⟨L', k1, k2, k3⟩, hu, _⟩ := reVal_ok H hre hvr
        have H' := re_core H d L' nb k1 k2
        refine ⟨addι ι st.nx L', N, slot_core H' ?_⟩
        unfold AV.val
        rw [hu]
        exact k3 _ (by simp [addι])
      · injection h with h; subst h; exact ⟨ι, N, H⟩
      · cases h
    · cases h
  | blk b0 off z =>
    have h : reB st b0 off z = some st' := h
    unfold reB at h
    split at h
    · rename_i ty0 e0 v hb0
      split at h
      · rename_i x hsub
        split at h
        · rename_i d nb u hre
          cases hc : !isB b0 d && Nat.ble (off + 1) v.size with
          | false => rw [hc] at h; cases h
          | true =>
          rw [hc] at h
          simp only [cond_true] at h
          simp only [Bool.and_eq_true, Bool.not_eq_true'] at hc
          have hoff := bleN hc.2
          split at h
          · rename_i v' hset
            injection h with h; subst h
            obtain ⟨L0, q1, q2, q3⟩ := H.blks b0 _ hb0
            rcases q2 with ⟨_, _, q2, _⟩ | ⟨hph0, pre, xs, post, hl0, ht0⟩
            · simp [Body.len] at q2
            have hx := hl0.2.2.1
            obtain ⟨c1, c2, rfl, hcl, hv, rfl⟩ := hx
            have hvr := subT_rel hv hoff hsub
            have hvl := hv.len
            have h1l : ((c1.drop off).take 1).length = 1 := by rw [List.length_take, List.length_drop]; omega
            obtain ⟨y, hy⟩ : ∃ y, (c1.drop off).take 1 = [y] := by
              match (c1.drop off).take 1, h1l with
              | [y], _ => exact ⟨y, rfl⟩
            rw [hy] at hvr
            obtain ⟨⟨L', k1, k2, k3⟩, _, hus, _⟩ := reVal_ok H hre hvr
            have H' := re_core H d L' nb k1 k2
            have hold := rel_new H L'
            have hv2 : v.rel (addι ι st.nx L') N w c1 := hv.mono hold (fun _ h => h) (fun _ _ => rfl)
            have hv' := setT_rel (expandA_rel hv2) (k3 (addι ι st.nx L') (by simp [addι])) (by rw [expandA_size, hus]; exact hoff) hset
            have hcells : c1.take off ++ ([y] ++ c1.drop (off + [y].length)) = c1 := by
              rw [← hy, h1l, ← List.drop_drop, List.take_append_drop, List.take_append_drop]
            rw [hcells] at hv'
            have hb0lt : b0 ≠ st.nx := fun e => by have := H.fresh b0 L0 q1; omega
            have hb0' : getK (setK st.nx nb (heapD st.h d)) b0 = some (.cells ty0 e0 (.els [v])) := by
              rw [getK_setK, if_neg (fun e => hb0lt e.symm)]
              cases d with
              | none => exact hb0
              | some c =>
                show getK (delK c st.h) b0 = _
                rw [getK_delK, if_neg]
                · exact hb0
                · rintro rfl
                  have h5 : Nat.beq c c = false := hc.1
                  rw [Nat.beq_refl] at h5; cases h5
            refine ⟨addι ι st.nx L', N, blk_core H' hb0' fun L hL hr => ?_⟩
            unfold addι at hL
            rw [if_neg hb0lt, q1] at hL
            injection hL with hL; subst hL
            exact .inr ⟨hph0, pre, c1 ++ [], post, ⟨hl0.1, hl0.2.1, ⟨c1, [], rfl, hcl, hv', rfl⟩, hl0.2.2.2⟩, ht0⟩
          · cases h
        · injection h with h; subst h; exact ⟨ι, N, H⟩
        · cases h
      · cases h
    · injection h with h; subst h; exact ⟨ι, N, H⟩
    · cases h
theorem reown_rel : ∀ {ps : List Path} {st st' : St} {a : Act} {w : World}, reown ps st = some st' → SRel C X st a w → SRel C X st' a w
  | [], _, _, _, _, h, H => by injection h with h; subst h; exact H
  | p :: ps, st, st', a, w, h, H => by
    unfold reown at h
    split at h
    · rename_i s hs; exact reown_rel h (re1_rel hs H)
    · cases h
theorem canonR_rel {m : Nat} {ps : List Path} {ls : List Nat} {st st' : St} {a : Act} {w : World} (hX : ∀ b L, X.ι b = some L → b < m) (h : canonR m ps ls st = some st') (H : SRel C X st a w) : SRel C X st' a w := by
  unfold canonR at h
  split at h
  · rename_i s hs; exact canon_rel hX h (reown_rel hs H)
  · cases h
end
def loopAt (id : Nat) (fn : Func) : Code := (blockAt id (bodyOf' fn)).getD .skip
def rndAt (id : Nat) (fn : Func) : Code := inLoop (blockAt id (bodyOf' fn))
/-- the loop, from start in its plain make: behind it the state is fin, or the function returns with it -/
def loopW (m : Nat) (ps : List Path) (lsI : List Nat) (start : St) (p : Prop) (ret : Bool) (fin : St) : LoopC := fun st k => canonR m ps lsI st = some start ∧ p ∧ cond ret (k .ret fin) (k .normal fin)
def endK (m : Nat) (ps : List Path) (lsO lsR : List Nat) (ret : Bool) (fin : St) : Exit → St → Prop
  | .normal, st => ret = false ∧ canonR m ps lsO st = some fin
  | .ret, st => ret = true ∧ canonR m [] lsR st = some fin
  | _, _ => False
/-- a loop that is not come to -/
def noLoop : LoopC := fun _ _ => False
section
variable {C : Ctx} {X : Snap}
theorem noLoop_ok {id : Nat} {b : Code} : LOk C X id b noLoop := fun _ _ h => h.elim
theorem loopW_ok {Γ : Tab} (hf : C.P.follows .mixedOrders = true) (hΓ : TabOk C Γ) {fn : Func} {id : Nat} (he : loopAt id fn = .loop (rndAt id fn)) {m : Nat} (hX : ∀ b L, X.ι b = some L → b < m)
    {ps : List Path} {lsI : List Nat} (lsO lsR : List Nat) {start fin : St} {p : Prop} {ret : Bool} {α : Type} (I : α → St) (P : α → Prop) (μ : α → Nat) (v0 : α) (hs : p → I v0 = start) (hp : p → P v0)
    (round : p → ∀ v, P v → Facts (I v) → ∃ cut fuel, wpL C (opK C Γ) cut X fuel (rndAt id fn) (I v) (thenK (fun st' => ∃ v', canonR m ps lsI st' = some (I v') ∧ μ v' < μ v ∧ P v') (blockK id (endK m ps lsO lsR ret fin)))) :
    LOk C X id (loopAt id fn) (loopW m ps lsI start p ret fin) := by
  rw [he]
  rintro st k ⟨h1, h2, h3⟩
  rw [← hs h2] at h1
  have hw : ∀ v, P v → Walks C X (.block id (.loop (rndAt id fn))) (I v) (endK m ps lsO lsR ret fin) := by
    intro v hv
    refine walks_block ?_
    refine walks_loop (fun n st => ∃ v, μ v = n ∧ P v ∧ ∀ a w, SRel C X st a w → SRel C X (I v) a w) ?_ (μ v) (I v) ⟨v, rfl, hv, fun _ _ H => H⟩
    rintro n st ⟨v, rfl, hP, hrel⟩
    have hr : Walks C X (rndAt id fn) (I v) (thenK (fun st' => ∃ v', canonR m ps lsI st' = some (I v') ∧ μ v' < μ v ∧ P v') (blockK id (endK m ps lsO lsR ret fin))) :=
      walks_facts fun hfa => by
        obtain ⟨cut, fuel, h⟩ := round h2 v hP hfa
        exact wpL_walks hf (opK_sound hΓ) fuel _ _ _ h
    intro a w H
    refine wp_mono (hr a w (hrel a w H)) ?_
    rintro e a' w' ⟨st', H', hk⟩
    refine ⟨st', H', ?_⟩
    cases e with
    | normal =>
      obtain ⟨v', e1, e2, e3⟩ := hk
      exact ⟨μ v', e2, v', rfl, e3, fun a w H => canonR_rel hX e1 H⟩
    | exit i => exact hk
    | goto l => exact hk
    | ret => exact hk
    | panic ch => exact hk
    | outgrown => exact hk
  intro a w H
  refine wp_mono (hw v0 (hp h2) a w (canonR_rel hX h1 H)) ?_
  rintro e a' w' ⟨st', H', hk⟩
  cases e with
  | normal =>
    obtain ⟨e1, e2⟩ := hk
    rw [e1] at h3
    exact ⟨fin, canonR_rel hX e2 H', h3⟩
  | ret =>
    obtain ⟨e1, e2⟩ := hk
    rw [e1] at h3
    exact ⟨fin, canonR_rel hX e2 H', h3⟩
  | exit i => exact hk.elim
  | goto l => exact hk.elim
  | panic ch => exact hk.elim
  | outgrown => exact hk.elim

/-- the loop, from start in its plain make: behind it the state is fin, or the function returns with finR -/
def loopR (m : Nat) (ps : List Path) (lsI : List Nat) (start : St) (p : Prop) (ret : Bool) (fin finR : St) : LoopC := fun st k => canonR m ps lsI st = some start ∧ p ∧ cond ret (k .ret finR) (k .normal fin)
def endR (m : Nat) (ps psR : List Path) (lsO lsR : List Nat) (ret : Bool) (fin finR : St) : Exit → St → Prop
  | .normal, st => ret = false ∧ canonR m ps lsO st = some fin
  | .ret, st => ret = true ∧ canonR m psR lsR st = some finR
  | _, _ => False
theorem loopR_ok {Γ : Tab} (hf : C.P.follows .mixedOrders = true) (hΓ : TabOk C Γ) {fn : Func} {id : Nat} (he : loopAt id fn = .loop (rndAt id fn)) {m : Nat} (hX : ∀ b L, X.ι b = some L → b < m)
    {ps : List Path} (psR : List Path) {lsI : List Nat} (lsO lsR : List Nat) {start fin finR : St} {p : Prop} {ret : Bool} {α : Type} (I : α → St) (P : α → Prop) (μ : α → Nat) (v0 : α) (hs : p → I v0 = start) (hp : p → P v0)
    (round : p → ∀ v, P v → Facts (I v) → ∃ cut fuel, wpL C (opK C Γ) cut X fuel (rndAt id fn) (I v) (thenK (fun st' => ∃ v', canonR m ps lsI st' = some (I v') ∧ μ v' < μ v ∧ P v') (blockK id (endR m ps psR lsO lsR ret fin finR)))) :
    LOk C X id (loopAt id fn) (loopR m ps lsI start p ret fin finR) := by
  rw [he]
  rintro st k ⟨h1, h2, h3⟩
  rw [← hs h2] at h1
  have hw : ∀ v, P v → Walks C X (.block id (.loop (rndAt id fn))) (I v) (endR m ps psR lsO lsR ret fin finR) := by
    intro v hv
    refine walks_block ?_
    refine walks_loop (fun n st => ∃ v, μ v = n ∧ P v ∧ ∀ a w, SRel C X st a w → SRel C X (I v) a w) ?_ (μ v) (I v) ⟨v, rfl, hv, fun _ _ H => H⟩
    rintro n st ⟨v, rfl, hP, hrel⟩
    have hr : Walks C X (rndAt id fn) (I v) (thenK (fun st' => ∃ v', canonR m ps lsI st' = some (I v') ∧ μ v' < μ v ∧ P v') (blockK id (endR m ps psR lsO lsR ret fin finR))) :=
      walks_facts fun hfa => by
        obtain ⟨cut, fuel, h⟩ := round h2 v hP hfa
        exact wpL_walks hf (opK_sound hΓ) fuel _ _ _ h
    intro a w H
    refine wp_mono (hr a w (hrel a w H)) ?_
    rintro e a' w' ⟨st', H', hk⟩
    refine ⟨st', H', ?_⟩
    cases e with
    | normal =>
      obtain ⟨v', e1, e2, e3⟩ := hk
      exact ⟨μ v', e2, v', rfl, e3, fun a w H => canonR_rel hX e1 H⟩
    | exit i => exact hk
    | goto l => exact hk
    | ret => exact hk
    | panic ch => exact hk
    | outgrown => exact hk
  intro a w H
  refine wp_mono (hw v0 (hp h2) a w (canonR_rel hX h1 H)) ?_
  rintro e a' w' ⟨st', H', hk⟩
  cases e with
  | normal =>
    obtain ⟨e1, e2⟩ := hk
    rw [e1] at h3
    exact ⟨fin, canonR_rel hX e2 H', h3⟩
  | ret =>
    obtain ⟨e1, e2⟩ := hk
    rw [e1] at h3
    exact ⟨finR, canonR_rel hX e2 H', h3⟩
  | exit i => exact hk.elim
  | goto l => exact hk.elim
  | panic ch => exact hk.elim
  | outgrown => exact hk.elim
/-- where a function ends, parts are taken for slices of their own -/
def exitR (C : Ctx) (fn : Func) (m : Nat) (ps : List Path) (o : Out) (e : Exit) (st : St) : Prop := match reown ps st with
  | some st' => exitK C fn m o e st'
  | none => False
theorem fnOkR {f : FuncId} {F : FSpec} {Γ : Tab} {fn : Func} {c : Code} (ps : List Path) (hf : C.P.follows .mixedOrders = true) (hΓ : TabOk C Γ) (h1 : C.P.funcs[f]? = some fn) (h2 : fn.body = some c) (h3 : (fn.name == "runtime.NumGoroutine") = false)
    (h : ∀ as bl p o, F as bl = some (p, o) → Asked p → as.length ≤ fn.ntmps ∧ ∀ X : Snap, (∀ b L, X.ι b = some L → b < bl.length) → Facts (entry fn as bl) → ∃ cut fuel, wpL C (opK C Γ) cut X fuel c (entry fn as bl) (exitR C fn bl.length ps o)) : FnOk C f F :=
  ⟨fn, c, h1, h2, h3, fun as bl p o hF hp => by
    obtain ⟨g1, g2⟩ := h as bl p o hF hp
    refine ⟨g1, fun X _ hX => walks_facts fun hfa => ?_⟩
    obtain ⟨cut, fuel, h⟩ := g2 X hX hfa
    have hw := wpL_walks hf (opK_sound hΓ) fuel _ _ _ h
    intro a w H
    refine wp_mono (hw a w H) ?_
    rintro e a' w' ⟨st', H', hk⟩
    unfold exitR at hk
    split at hk
    · rename_i st2 hre
      exact ⟨st2, reown_rel hre H', hk⟩
    · exact hk.elim⟩
end
end Go.Ab
/- Contracts that rest on what was proved without the abstract machine: closed values in, a new slice of numbers out. -/
namespace Go.Ab
open Go Go.Chr Go.RowKit

/-- what is asked of closed arguments, and the numbers that come -/
abbrev OSpec := List CV → Option (Option Prop × List Int)
def flatO (t : TypeId) (kd : IntKind) (F : OSpec) : Contract := fun as h nx k => match closeL h (trues as) as with
  | none => False
  | some (as1, rdc) => match cvArgs as1 with
    | none => False
    | some cs => match F cs with
      | none => False
      | some (p, l) => asking p (k ⟨.own nx 1 l.length, [], [.cells t 1 (.ints kd l)], rdc⟩)
def CallOkO (C : Ctx) (t : TypeId) (kd : IntKind) (f : FuncId) (F : OSpec) : Prop := ∀ cs p l, F cs = some (p, l) → Asked p → ∀ (N : Nat → Prop) (w : World) (vs : List Value), Env C N w → cvsRel N w cs vs →
  CallOuts C.P f vs w fun u w' => Below w.heap.size w w' ∧ OI w' w.heap.size t kd u l ∧ ∀ x ∈ l, okI kd x
section
variable {C : Ctx}
theorem Post.ofOwn {ι : Nat → Option Loc} {N : Nat → Prop} {w w' : World} {nx : Nat} {r : OpR} {t : TypeId} {kd : IntKind} {l : List Int} {u : Value} (hp : Pre C ι N w nx r) (hu : r.upd = []) (hn : r.news = [.cells t 1 (.ints kd l)]) (hb : Below w.heap.size w w')
    (ho : OI w' w.heap.size t kd u l) (hl : ∀ x ∈ l, okI kd x) : ∃ ι', Post ι N w ι' N w' nx r ∧ (AV.own nx 1 l.length).val ι' N w' u := by
  have hfree : ι nx = none := by simpa using hp.fresh 0 (by rw [hn]; simp)
  obtain ⟨hlen, ho⟩ := ho
  simp only [List.length_map, Nat.mul_one] at hlen
  rcases ho with ⟨rfl, h0⟩ | ⟨g, cap, cur, rfl, hg, hh, hc, _, hsz, htk⟩
  · refine ⟨addι ι nx ⟨0, 0, 0, 0, true⟩, ?_, ?_⟩
    · refine ⟨addι_old hfree, ?_, fun _ h => h, fun _ h => .inl h, fun k hk => Nat.lt_of_lt_of_le (hp.env.1 k hk) hb.size, Upd.below hb _, (fun b blk h => by rw [hu] at h; cases h), ?_, ?_⟩
      · intro b L' h
        unfold addι at h
        split at h
        · rename_i e; subst e; exact .inr ⟨Nat.le_refl _, by rw [hn]; simp⟩
        · exact .inl h
      · intro j blk h
        rw [hn] at h
        cases j with
        | zero =>
          simp at h; subst h
          have : l = [] := List.length_eq_zero_iff.1 h0
          subst this
          exact ⟨⟨0, 0, 0, 0, true⟩, by simp [addι], .inl ⟨rfl, ⟨rfl, rfl, by simp⟩, rfl, rfl⟩, fun h => by cases h⟩
        | succ j => simp at h
      · intro i j Li Lj hi hj hne
        rw [hn] at hi hj
        simp at hi hj; omega
    · exact ⟨⟨0, 0, 0, 0, true⟩, by simp [addι], h0.symm, .inl ⟨rfl, h0, none, rfl⟩⟩
  · have hlt : g < w'.heap.size := (Array.getElem?_eq_some_iff.1 hh).1
    refine ⟨addι ι nx ⟨g, 0, cap * 1, l.length, false⟩, ?_, ?_⟩
    · refine ⟨addι_old hfree, ?_, fun _ h => h, fun _ h => .inl h, fun k hk => Nat.lt_of_lt_of_le (hp.env.1 k hk) hb.size, Upd.below hb _, (fun b blk h => by rw [hu] at h; cases h), ?_, ?_⟩
      · intro b L' h
        unfold addι at h
        split at h
        · rename_i e; subst e; exact .inr ⟨Nat.le_refl _, by rw [hn]; simp⟩
        · exact .inl h
      · intro j blk h
        rw [hn] at h
        cases j with
        | zero =>
          simp at h; subst h
          refine ⟨⟨g, 0, cap * 1, l.length, false⟩, by simp [addι], .inr ⟨rfl, [], l.map (.int kd), cur.toList.drop l.length, ⟨?_, rfl, ⟨rfl, rfl, hl⟩, rfl⟩, ?_⟩, fun _ => ⟨fun hN => ?_, .inl hg⟩⟩
          · rw [List.nil_append]
            rw [Nat.mul_one] at htk
            show w'.heap[g]? = _
            rw [hh, ← htk, List.take_append_drop]
          · simp; omega
          · have := hp.env.1 _ hN
            simp at this; omega
        | succ j => simp at h
      · intro i j Li Lj hi hj hne
        rw [hn] at hi hj
        simp at hi hj; omega
    · exact ⟨⟨g, 0, cap * 1, l.length, false⟩, by simp [addι], rfl, .inr ⟨rfl, cap, rfl, hc, by simp⟩⟩
theorem env_more {ι : Nat → Option Loc} {N : Nat → Prop} {w : World} {nx : Nat} {r : OpR} (hpre : Pre C ι N w nx r) {rdc : List (Nat × Blk')} (hr : ∀ q ∈ rdc, q ∈ r.rds) : Env C (fun k => N k ∨ ∃ q ∈ rdc, ∃ L, ι q.1 = some L ∧ L.ph = false ∧ k = L.blk) w := by
  refine ⟨?_, fun g blk hg => ?_⟩
  · rintro k (hk | ⟨q, hq, L, hL, hph, rfl⟩)
    · exact hpre.env.1 k hk
    · obtain ⟨L', h1, h2, _⟩ := hpre.rds q (hr q hq)
      rw [hL] at h1; injection h1 with h1; subst h1
      exact h2.lt hph
  · obtain ⟨h1, ty, esz, body, xs, post, e, hl⟩ := hpre.env.2 g blk hg
    exact ⟨.inl h1, ty, esz, body, xs, post, e, hl.mono (fun _ _ h => h) (fun _ h => .inl h) (fun _ _ => rfl) rfl⟩
theorem flatO_ok {t : TypeId} {kd : IntKind} {f : FuncId} {F : OSpec} (hF : CallOkO C t kd f F) : ContractOk C f (flatO t kd F) := by
  refine ⟨fun args h nx k hk => ?_⟩
  unfold flatO at hk
  split at hk
  · exact hk.elim
  rename_i as1 rdc hcl
  split at hk
  · exact hk.elim
  rename_i cs hcs
  split at hk
  · exact hk.elim
  rename_i p l hv
  obtain ⟨hp, hk⟩ := asking_split hk
  refine ⟨_, ?_, OpR.ok_read rfl, ?_, hk⟩
  · intro ι N w vs hpre hvals
    have hvals1 := (closeL_ok hcl).2 (N' := fun k => N k ∨ ∃ q ∈ rdc, ∃ L, ι q.1 = some L ∧ L.ph = false ∧ k = L.blk) (fun k hk => .inl hk) (fun q hq => by
      obtain ⟨L, h1, h2, _⟩ := hpre.rds q hq
      exact ⟨L, h1, h2, fun hph => .inr ⟨q, hq, L, h1, hph, rfl⟩⟩) vs hvals
    refine (hF cs p l hv hp _ w vs (env_more hpre fun q hq => hq) (cvArgs_rel hcs hvals1)).mono ?_
    rintro u w' ⟨hb, hu, hl⟩
    obtain ⟨ι', h1, h2⟩ := Post.ofOwn hpre rfl rfl hb hu hl
    exact ⟨ι', N, h1, h2⟩
  · intro q hq
    exact (closeL_ok (ι := fun _ => none) (w := default) hcl).1 q hq
end
/-- closed bytes, as the older contracts read them -/
theorem ints_ri {N : Nat → Prop} {w : World} {k : IntKind} {l : List Int} {v : Value} (hN : ∀ k, N k → k < w.heap.size) (h : asVal (CV.ints k l).isAgg ((CV.ints k l).rel N w) v) : RI w k v l ∧ ∀ x ∈ l, okI k x := by
  obtain ⟨⟨A, c, e, hc, h⟩, hl⟩ := h
  injection e with e
  refine ⟨⟨A, c, e, hc, ⟨by simp, fun h0 => ?_⟩⟩, hl⟩
  obtain ⟨ad, e, hb, hr⟩ := h h0
  exact ⟨ad, e, hN _ hb, hr⟩
end Go.Ab
/- Bytes and numbers, plain. -/
namespace Go.Chr
open Go Go.Ab

theorem okI_of {k : IntKind} {lo hi : Int} (hk : k ≠ .i64) (h1 : k.min = lo) (h2 : k.max = hi) {x : Int} : okI k x ↔ lo ≤ x ∧ x ≤ hi := by
  unfold okI IntKind.has
  rw [h1, h2]
  exact ⟨fun h => h hk, fun h _ => h⟩
theorem okI_u8 {x : Int} : okI .u8 x ↔ 0 ≤ x ∧ x < 256 := (okI_of (by decide) (by decide : IntKind.u8.min = 0) (by decide : IntKind.u8.max = 255)).trans (by omega)
theorem okI_u32 {x : Int} : okI .u32 x ↔ 0 ≤ x ∧ x < 4294967296 := (okI_of (by decide) (by decide : IntKind.u32.min = 0) (by decide : IntKind.u32.max = 4294967295)).trans (by omega)
theorem okI_u64 {x : Int} : okI .u64 x ↔ 0 ≤ x ∧ x < 18446744073709551616 := (okI_of (by decide) (by decide : IntKind.u64.min = 0) (by decide : IntKind.u64.max = 18446744073709551615)).trans (by omega)
/-- the bytes of a number, the least first -/
def leL (x : Nat) : List Int := (List.range 32).map fun i => ((x / 256 ^ i % 256 : Nat) : Int)
def beL (x : Nat) : List Int := (leL x).reverse
/-- the number of bytes, the least first -/
def leN' : List Int → Nat
  | [] => 0
  | b :: l => b.toNat + 256 * leN' l
/-- the number of 32 bytes, the most significant first, or none -/
def beN (l : List Int) : Nat := leN' l.reverse
/-- the same, as the code puts it -/
def leK (x : Nat) : List Int := (List.range 32).map fun i => IntKind.u8.wrap (Int.fdiv (lb x (i / 8)) (2 ^ (min (8 * (i % 8)) 64)))
theorem lb_byte (x : Nat) {i : Nat} (hi : i < 32) : IntKind.u8.wrap (Int.fdiv (lb x (i / 8)) (2 ^ (min (8 * (i % 8)) 64))) = ((x / 256 ^ i % 256 : Nat) : Int) := by
  rw [Nat.min_eq_left (by omega)]
  have h1 : lb x (i / 8) = ((x / 18446744073709551616 ^ (i / 8) % 18446744073709551616 : Nat) : Int) := by
    unfold lb; rw [Nat.pow_mul]
  rw [h1, Int.fdiv_eq_ediv_of_nonneg _ (by exact_mod_cast Nat.zero_le _)]
  have h2 : IntKind.u8.wrap = fun n => n % 256 := by
    funext n; unfold IntKind.wrap; simp [IntKind.signed, IntKind.bits]
  rw [h2]
  have h3 : (2 : Int) ^ (8 * (i % 8)) = ((256 ^ (i % 8) : Nat) : Int) := by
    rw [show (256 : Nat) = 2 ^ 8 from rfl, ← Nat.pow_mul]; simp
  have h4 : (18446744073709551616 : Nat) ^ (i / 8) * 256 ^ (i % 8) = 256 ^ i := by
    have : (18446744073709551616 : Nat) = 256 ^ 8 := by decide
    rw [this, ← Nat.pow_mul, ← Nat.pow_add]; congr 1; omega
  have h5 : (18446744073709551616 : Nat) = 256 ^ (i % 8) * 256 ^ (8 - i % 8) := by
    rw [← Nat.pow_add, show i % 8 + (8 - i % 8) = 8 by omega]
  rw [h3]
  show ((((x / 18446744073709551616 ^ (i / 8) % 18446744073709551616 : Nat) : Int) / ((256 ^ (i % 8) : Nat) : Int)) % ((256 : Nat) : Int)) = _
  rw [← Int.natCast_ediv, ← Int.natCast_emod]
  congr 1
  rw [← h4, ← Nat.div_div_eq_div_mul]
  generalize x / 18446744073709551616 ^ (i / 8) = y
  rw [h5, Nat.mod_mul_right_div_self]
  exact Nat.mod_mod_of_dvd _ ⟨256 ^ (8 - i % 8 - 1), by rw [← Nat.pow_succ']; congr 1; omega⟩
theorem leK_eq (x : Nat) : leK x = leL x := List.map_congr_left fun i hi => lb_byte x (List.mem_range.1 hi)
theorem leL_len (x : Nat) : (leL x).length = 32 := by simp [leL]
theorem beL_len (x : Nat) : (beL x).length = 32 := by simp [beL, leL]
theorem leL_ok (x : Nat) : ∀ b ∈ leL x, 0 ≤ b ∧ b < 256 := by
  intro b hb
  obtain ⟨i, _, rfl⟩ := List.mem_map.1 hb
  omega
theorem list32 {l : List Int} (h : l.length = 32) : ∃ a0 a1 a2 a3 a4 a5 a6 a7 a8 a9 a10 a11 a12 a13 a14 a15 a16 a17 a18 a19 a20 a21 a22 a23 a24 a25 a26 a27 a28 a29 a30 a31, l = [a0, a1, a2, a3, a4, a5, a6, a7, a8, a9, a10, a11, a12, a13, a14, a15, a16, a17, a18, a19, a20, a21, a22, a23, a24, a25, a26, a27, a28, a29, a30, a31] := by
  match l, h with
  | [a0, a1, a2, a3, a4, a5, a6, a7, a8, a9, a10, a11, a12, a13, a14, a15, a16, a17, a18, a19, a20, a21, a22, a23, a24, a25, a26, a27, a28, a29, a30, a31], _ => exact ⟨_, _, _, _, _, _, _, _, _, _, _, _, _, _, _, _, _, _, _, _, _, _, _, _, _, _, _, _, _, _, _, _, rfl⟩
end Go.Chr
namespace Go.Chr
open Go Go.Ab
/-- an int that fits -/
theorem wi {x : Int} (h : -9223372036854775808 ≤ x ∧ x < 9223372036854775808) : IntKind.i64.wrap x = x := by
  have e : (2 : Int) ^ 64 = 18446744073709551616 := by decide
  have e' : (2 : Int) ^ (64 - 1) = 9223372036854775808 := by decide
  simp only [IntKind.wrap, IntKind.bits, IntKind.signed, e, e', Bool.true_and, decide_eq_true_eq, ge_iff_le]
  split <;> omega
theorem wu64 {x : Int} (h : 0 ≤ x ∧ x < 18446744073709551616) : IntKind.u64.wrap x = x := by
  have e : (2 : Int) ^ 64 = 18446744073709551616 := by decide
  simp only [IntKind.wrap, IntKind.bits, IntKind.signed, e, Bool.false_and]
  simp; omega
theorem wu32 {x : Int} (h : 0 ≤ x ∧ x < 4294967296) : IntKind.u32.wrap x = x := by
  have e : (2 : Int) ^ 32 = 4294967296 := by decide
  simp only [IntKind.wrap, IntKind.bits, IntKind.signed, e, Bool.false_and]
  simp; omega
theorem wu8 {x : Int} (h : 0 ≤ x ∧ x < 256) : IntKind.u8.wrap x = x := by
  have e : (2 : Int) ^ 8 = 256 := by decide
  simp only [IntKind.wrap, IntKind.bits, IntKind.signed, e, Bool.false_and]
  simp; omega
theorem wu8_mod (x : Int) : IntKind.u8.wrap x = x % 256 := by
  have e : (2 : Int) ^ 8 = 256 := by decide
  simp only [IntKind.wrap, IntKind.bits, IntKind.signed, e, Bool.false_and]
  simp
theorem wu32_mod (x : Int) : IntKind.u32.wrap x = x % 4294967296 := by
  have e : (2 : Int) ^ 32 = 4294967296 := by decide
  simp only [IntKind.wrap, IntKind.bits, IntKind.signed, e, Bool.false_and]
  simp
theorem wu64_mod (x : Int) : IntKind.u64.wrap x = x % 18446744073709551616 := by
  have e : (2 : Int) ^ 64 = 18446744073709551616 := by decide
  simp only [IntKind.wrap, IntKind.bits, IntKind.signed, e, Bool.false_and]
  simp
end Go.Chr
/- SHA-256, plain. -/
namespace Go.Chr
open Go Go.Ab

def rotl32 (x n : Int) : Int :=
  ior .u32 (ishl .u32 x (iand .u64 (IntKind.u64.wrap n) 31)) (ishr .u32 x (IntKind.u64.wrap (32 - iand .u64 (IntKind.u64.wrap n) 31)))
/-- a word turned right -/
def rotr32 (x n : Int) : Int := rotl32 x (IntKind.i64.wrap (0 - n))
def add32 (x y : Int) : Int := IntKind.u32.wrap (x + y)
def word32 (l : List Int) : Int :=
  ior .u32 (ior .u32 (ior .u32 (ishl .u32 (IntKind.u32.wrap (l.getD 0 0)) 24) (ishl .u32 (IntKind.u32.wrap (l.getD 1 0)) 16)) (ishl .u32 (IntKind.u32.wrap (l.getD 2 0)) 8)) (IntKind.u32.wrap (l.getD 3 0))
def newW (ws : List Int) (t : Nat) : Int :=
  let x := ws.getD (t - 15) 0
  let y := ws.getD (t - 2) 0
  add32 (add32 (add32 (ixor .u32 (ixor .u32 (rotr32 y 17) (rotr32 y 19)) (ishr .u32 y 10)) (ws.getD (t - 7) 0)) (ixor .u32 (ixor .u32 (rotr32 x 7) (rotr32 x 18)) (ishr .u32 x 3))) (ws.getD (t - 16) 0)
/-- the words, the first n of a block -/
def ws0 (l : List Int) : Nat → List Int
  | 0 => List.replicate 64 0
  | n + 1 => (ws0 l n).set n (word32 (l.drop (4 * n)))
def wsN (l : List Int) : Nat → List Int
  | 0 => ws0 l 16
  | n + 1 => (wsN l n).set (16 + n) (newW (wsN l n) (16 + n))
def rnd32 (ks ws : List Int) (t : Nat) (s : List Int) : List Int :=
  let a := s.getD 0 0
  let b := s.getD 1 0
  let c := s.getD 2 0
  let d := s.getD 3 0
  let e := s.getD 4 0
  let f := s.getD 5 0
  let g := s.getD 6 0
  let h := s.getD 7 0
  let t1 := add32 (add32 (add32 (add32 h (ixor .u32 (ixor .u32 (rotr32 e 6) (rotr32 e 11)) (rotr32 e 25))) (ixor .u32 (iand .u32 e f) (iand .u32 (inot .u32 e) g))) (ks.getD t 0)) (ws.getD t 0)
  let t2 := add32 (ixor .u32 (ixor .u32 (rotr32 a 2) (rotr32 a 13)) (rotr32 a 22)) (ixor .u32 (ixor .u32 (iand .u32 a b) (iand .u32 a c)) (iand .u32 b c))
  [add32 t1 t2, a, b, c, add32 d t1, e, f, g]
def rN32 (ks ws s : List Int) : Nat → List Int
  | 0 => s
  | n + 1 => rnd32 ks ws n (rN32 ks ws s n)
def add8 (s v : List Int) : List Int := [add32 (s.getD 0 0) (v.getD 0 0), add32 (s.getD 1 0) (v.getD 1 0), add32 (s.getD 2 0) (v.getD 2 0), add32 (s.getD 3 0) (v.getD 3 0), add32 (s.getD 4 0) (v.getD 4 0), add32 (s.getD 5 0) (v.getD 5 0), add32 (s.getD 6 0) (v.getD 6 0), add32 (s.getD 7 0) (v.getD 7 0)]
def shaTake (ks s l : List Int) : List Int := add8 s (rN32 ks (wsN l 48) s 64)
theorem ws0_len (l : List Int) : ∀ n, (ws0 l n).length = 64
  | 0 => by simp [ws0]
  | n + 1 => by simp [ws0, ws0_len l n]
theorem wsN_len (l : List Int) : ∀ n, (wsN l n).length = 64
  | 0 => ws0_len l 16
  | n + 1 => by simp [wsN, wsN_len l n]
theorem rN32_len (ks ws s : List Int) (h : s.length = 8) : ∀ n, (rN32 ks ws s n).length = 8
  | 0 => h
  | n + 1 => rfl
end Go.Chr
namespace Go.Chr
open Go Go.Ab
/-- behind k blocks of m -/
def shaRun (ks s m : List Int) : Nat → List Int
  | 0 => s
  | k + 1 => shaTake ks (shaRun ks s m k) ((m.drop (64 * k)).take 64)
def orFirst (h s : List Int) (n : Int) : List Int := bif n == 0 then h else s
end Go.Chr
namespace Go.Chr
open Go Go.Ab
/-- how many zeros stand behind the first bit, n bytes ahead -/
def padZ (n : Nat) : Nat := (119 - n % 64) % 64
def len8 (n : Int) : List Int := (List.range 8).map fun (i : Nat) => IntKind.u8.wrap (ishr .u64 (IntKind.u64.wrap (8 * n)) ((56 : Int) - 8 * (i : Int)))
def shaPad (r : List Int) (n : Int) : List Int := r ++ [128] ++ List.replicate (padZ r.length) 0 ++ len8 n
def bytes4 (w : Int) : List Int := [IntKind.u8.wrap (ishr .u32 w 24), IntKind.u8.wrap (ishr .u32 w 16), IntKind.u8.wrap (ishr .u32 w 8), IntKind.u8.wrap w]
def shaOut (S : List Int) : List Int := (List.range 8).flatMap fun i => bytes4 (S.getD i 0)
/-- the hash, of the state s, what waits, and the count -/
def shaEnd (ks S r : List Int) (n : Int) : List Int := shaOut (shaRun ks S (shaPad r n) ((shaPad r n).length / 64))
theorem len8_len (n : Int) : (len8 n).length = 8 := by simp [len8]
theorem shaPad_len (r : List Int) (n : Int) : (shaPad r n).length % 64 = 0 := by
  unfold shaPad padZ
  simp only [List.length_append, List.length_replicate, len8_len, List.length_cons, List.length_nil]
  omega
end Go.Chr
namespace Go.Chr
open Go Go.Ab
theorem shaRun_prefix (ks s m l : List Int) : ∀ k, 64 * k ≤ m.length → shaRun ks s (m ++ l) k = shaRun ks s m k
  | 0, _ => rfl
  | k + 1, h => by
    unfold shaRun
    rw [shaRun_prefix ks s m l k (by omega), List.drop_append_of_le_length (by omega), List.take_append_of_le_length (by simp; omega)]
theorem shaRun_add (ks s m : List Int) (a : Nat) : ∀ b, shaRun ks s m (a + b) = shaRun ks (shaRun ks s m a) (m.drop (64 * a)) b
  | 0 => rfl
  | b + 1 => by
    show shaTake ks (shaRun ks s m (a + b)) ((m.drop (64 * (a + b))).take 64) = _
    rw [shaRun_add ks s m a b]
    show _ = shaTake ks _ (((m.drop (64 * a)).drop (64 * b)).take 64)
    rw [List.drop_drop, Nat.mul_add]
/-- what waits behind m -/
def shaRest (m : List Int) : List Int := m.drop (64 * (m.length / 64))
/-- the state behind m -/
def shaSt (ks h m : List Int) : List Int := shaRun ks h m (m.length / 64)
def shaF (ks h m : List Int) : List Int := shaEnd ks (shaSt ks h m) (shaRest m) m.length
theorem shaRest_len (m : List Int) : (shaRest m).length = m.length - 64 * (m.length / 64) := by simp [shaRest]
theorem sha_more (ks h m l : List Int) : shaRun ks (shaSt ks h m) (shaRest m ++ l) ((shaRest m ++ l).length / 64) = shaSt ks h (m ++ l) ∧ (shaRest m ++ l).drop (64 * ((shaRest m ++ l).length / 64)) = shaRest (m ++ l) ∧
    (shaRest m ++ l).length - 64 * ((shaRest m ++ l).length / 64) = (shaRest (m ++ l)).length := by
  have hl : (shaRest m ++ l).length = m.length - 64 * (m.length / 64) + l.length := by rw [List.length_append, shaRest_len]
  have hq : (m ++ l).length / 64 = m.length / 64 + (shaRest m ++ l).length / 64 := by rw [hl, List.length_append]; omega
  have hd : (m ++ l).drop (64 * (m.length / 64)) = shaRest m ++ l := by
    unfold shaRest
    rw [List.drop_append_of_le_length (by omega)]
  have h2 : (shaRest m ++ l).drop (64 * ((shaRest m ++ l).length / 64)) = shaRest (m ++ l) := by
    show _ = (m ++ l).drop (64 * ((m ++ l).length / 64))
    rw [hq, Nat.mul_add, ← List.drop_drop, hd]
  refine ⟨?_, h2, ?_⟩
  · show _ = shaRun ks h (m ++ l) ((m ++ l).length / 64)
    rw [hq, shaRun_add, hd, shaRun_prefix ks h m l _ (by omega)]
    rfl
  · rw [← h2, List.length_drop]
theorem orFirst_st (ks h m s : List Int) (hs : m ≠ [] → s = shaSt ks h m) : orFirst h s (m.length : Int) = shaSt ks h m := by
  unfold orFirst
  cases m with
  | nil => rfl
  | cons x m =>
    have : ((((x :: m).length : Nat) : Int) == 0) = false := by simp; omega
    rw [this]; exact hs (by simp)
end Go.Chr
/- HMAC, plain. -/
namespace Go.Chr
open Go Go.Ab

def keyF (ks h key : List Int) : List Int := bif decide ((key.length : Int) > 64) then shaF ks h key else key
/-- the first i bytes changed -/
def xorN (c : Int) (l : List Int) : Nat → List Int
  | 0 => l
  | i + 1 => (xorN c l i).set i (ixor .u8 ((xorN c l i).getD i 0) c)
def key64 (ks h key : List Int) : List Int := copyL 0 64 (List.replicate 64 0) (keyF ks h key)
def macIn (ks h key : List Int) : List Int := xorN 54 (key64 ks h key) 64
def macOut (ks h key : List Int) : List Int := xorN 92 (key64 ks h key) 64
def macF (ks h key m : List Int) : List Int := shaF ks h (macOut ks h key ++ shaF ks h (macIn ks h key ++ m))
theorem xorN_len (c : Int) (l : List Int) : ∀ i, (xorN c l i).length = l.length
  | 0 => rfl
  | i + 1 => by simp [xorN, xorN_len c l i]
theorem shaOut_len (S : List Int) : (shaOut S).length = 32 := by
  show ((List.range 8).flatMap fun i => bytes4 (S.getD i 0)).length = 32
  rw [List.length_flatMap]
  rfl
theorem shaF_len (ks h m : List Int) : (shaF ks h m).length = 32 := shaOut_len _
theorem key64_len (ks h key : List Int) : (key64 ks h key).length = 64 := by
  unfold key64 copyL
  simp only [List.length_append, List.length_take, List.length_drop, List.length_replicate, List.take_zero, List.length_nil]
  omega
theorem macIn_len (ks h key : List Int) : (macIn ks h key).length = 64 := (xorN_len _ _ _).trans (key64_len ks h key)
theorem macOut_len (ks h key : List Int) : (macOut ks h key).length = 64 := (xorN_len _ _ _).trans (key64_len ks h key)
theorem macF_len (ks h key m : List Int) : (macF ks h key m).length = 32 := shaF_len ks h _
/-- a stream's turn: the new key, the new value -/
def turnK (ks h k v : List Int) (c : Int) (more : List Int) : List Int := macF ks h k (v ++ (c :: more))
def turnV (ks h k v : List Int) (c : Int) (more : List Int) : List Int := macF ks h (turnK ks h k v c more) v
end Go.Chr
/- From a function's contract to a call at the top. -/
namespace Go.Ab
open Go Go.Chr Go.RowKit

theorem calls_of_outs {P : Program} {f : FuncId} {vs : List Value} {w : World} {R : Value → World → Prop} (hfn : (P.funcs[f]?).map (fun fn => (fn.name == "runtime.NumGoroutine", fn.body.isSome)) = some (false, true))
    (h : CallOuts P f vs w R) : Calls P f vs.toArray w fun e w' => ∃ u, e = .returned u ∧ R u w' := by
  unfold CallOuts at h
  rw [run_call w hfn] at h
  refine Calls.mono h ?_
  intro e w' he
  cases e with
  | returned u => exact ⟨u, rfl, he⟩
  | panicked c => exact he.elim
  | outgrown => exact he.elim
theorem top_calls {C : Ctx} {f : FuncId} {F : FSpec} {modes : List Bool} {args : List AV} {v : AV} {N : Nat → Prop} {w : World} {vs : List Value} (hF : FnOk C f F)
    (hfn : (C.P.funcs[f]?).map (fun fn => (fn.name == "runtime.NumGoroutine", fn.body.isSome)) = some (false, true)) (hE : Env C N w) (hv : valsRel (fun _ => none) N w args vs)
    (hk : ∀ k : OpR → Prop, lift modes F args [] 0 k = k ⟨v, [], [], []⟩) :
    Calls C.P f vs.toArray w fun e w' => ∃ u, e = .returned u ∧ (∃ ι' N', v.val ι' N' w' u) ∧ Below w.heap.size w w' := by
  obtain ⟨r, h1, -, -, hr, h2, h3, h4⟩ := (lift_ok hF modes).ok args [] 0 (fun r => r.val = v ∧ r.rds = [] ∧ r.upd = [] ∧ r.news = []) (by rw [hk]; exact ⟨rfl, rfl, rfl, rfl⟩)
  have hpre : Pre C (fun _ => none) N w 0 r := by
    refine ⟨hE, ?_, ?_, ?_⟩
    · rw [h2]; intro p hp; cases hp
    · rw [h2]; intro p hp; cases hp
    · intro j hj; rfl
  refine Calls.mono (calls_of_outs hfn (h1 (fun _ => none) N w vs hpre hv)) ?_
  rintro e w' ⟨u, rfl, ι', N', hp, hu⟩
  rw [hr] at hu
  refine ⟨u, rfl, ⟨ι', N', hu⟩, hp.frame.to_below fun k hk => ?_⟩
  obtain ⟨p, hp, _⟩ := hk
  rw [h3] at hp; cases hp
/-- a variable that a row lists -/
theorem laid_at {P : Program} {w : World} {n : String} {d : DataW Unit} : ∀ {l : List (String × DataW Unit)} {ps : List MemPlace}, DataW.LaidVars P w l ps → (n, d) ∈ l →
    ∃ g t cs fuel p, P.globalNamed n = some g ∧ (P.globals[g]?).map (·.type) = some t ∧ w.var? P n = some cs ∧ DataW.trod (fun _ => ()) P w 0 (fun _ => true) false fuel t cs.toList = some (d, p)
  | [], _, _, hm => by cases hm
  | (n', d') :: r, ps, h, hm => by
    obtain ⟨g, t, cs, fuel, p, q, h1, h2, h3, h4, h5, _⟩ := h
    rcases List.mem_cons.1 hm with e | hm
    · injection e with e1 e2
      subst e1; subst e2
      exact ⟨g, t, cs, fuel, p, h1, h2, h3, h4⟩
    · exact laid_at h5 hm
/-- its cells, and its block -/
theorem laid_blk {P : Program} {w : World} {n : String} {cs : Array Value} {g : Nat} {t : TypeId} (hg : P.globalNamed n = some g) (hv : w.var? P n = some cs) (hsh : w.ShapedOpen P) (hlt : g < P.globals.size)
    (h0 : (((begin P (fun _ _ => 0) default).world.heap[g]?).bind Obj.row?).map Prod.snd = some t) : w.heap[g]? = some (.cells cs t (0, 0)) := by
  obtain ⟨⟨zero, t'⟩, h0', e⟩ := Option.map_eq_some_iff.1 h0
  dsimp only at e
  subst e
  obtain ⟨cs', h1, _⟩ := hsh.1 g zero t' hlt h0'
  unfold World.var? at hv
  rw [hg, Option.bind_some, h1] at hv
  injection hv with hv
  rw [h1, hv]
end Go.Ab
