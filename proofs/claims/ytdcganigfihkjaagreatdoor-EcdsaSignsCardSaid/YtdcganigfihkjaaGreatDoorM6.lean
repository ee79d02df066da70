import Derived.Test.YtdcganigfihkjaaGreatDoorM5
/- Contracts that rest on what was proved without the abstract machine: closed values in, closed values out. -/
namespace Go.Ab
open Go Go.Chr Go.RowKit
def cvArgs : List AV → Option (List CV)
 | [] => some []
 | .c v :: l => match cvArgs l with
  | some vs => some (v :: vs)
  | none => none
 | _ => none
def trues : List AV → List Bool
 | [] => []
 | _ :: l => true :: trues l
abbrev CSpec := List CV → Option (Option Prop × AV)
def flatC (F : CSpec) : Contract := fun as h nx k => match closeL h (trues as) as with
 | none => False
 | some (as1, rdc) => match cvArgs as1 with
  | none => False
  | some cs => match F cs with
   | none => False
   | some (p, v) => cond v.solid (asking p (k ⟨v, [], [], rdc⟩)) False
def cvsRel (N : Nat → Prop) (w : World) : List CV → List Value → Prop
 | [], vs => vs = []
 | a :: as, vs => ∃ v vs', vs = v :: vs' ∧ asVal a.isAgg (a.rel N w) v ∧ cvsRel N w as vs'
def CallOk (C : Ctx) (f : FuncId) (F : CSpec) : Prop := ∀ cs p v, F cs = some (p, v) → Asked p → ∀ (N : Nat → Prop) (w : World) (vs : List Value), Env C N w → cvsRel N w cs vs →
 CallOuts C.P f vs w fun u w' => Below w.heap.size w w' ∧ v.val (fun _ => none) N w u
section
variable {C : Ctx}
theorem cvArgs_rel {ι : Nat → Option Loc} {N : Nat → Prop} {w : World} : ∀ {as : List AV} {cs : List CV} {vs : List Value}, cvArgs as = some cs → valsRel ι N w as vs → cvsRel N w cs vs
 | [], cs, vs, h, hv => by
  injection h with h; subst h; exact hv
 | .c v :: l, cs, vs, h, ⟨u, vs', e, h1, h2⟩ => by
  unfold cvArgs at h
  split at h
  ·rename_i vs2 h3
   injection h with h; subst h
   exact ⟨u, vs', e, h1, cvArgs_rel h3 h2⟩
  ·cases h
 | .ptr _ _ _ _ :: _, _, _, h, _ => by cases h
 | .cp _ _ _ :: _, _, _, h, _ => by cases h
 | .own _ _ _ :: _, _, _, h, _ => by cases h
 | .sub _ _ _ _ :: _, _, _, h, _ => by cases h
 | .inn _ _ _ _ _ _ :: _, _, _, h, _ => by cases h
 | .pr _ _ :: _, _, _, h, _ => by cases h
 | .t0 :: _, _, _, h, _ => by cases h
 | .t2 _ _ :: _, _, _, h, _ => by cases h
 | .t3 _ _ _ :: _, _, _, h, _ => by cases h
 | .fn _ _ :: _, _, _, h, _ => by cases h
theorem AV.solid_any {ι ι' : Nat → Option Loc} {N N' : Nat → Prop} {w w' : World} : ∀ {a : AV} {v : Value}, a.solid = true → (∀ b L, ι b = some L → ι' b = some L) → a.val ι N w v → a.val ι' N' w' v
 | a, v, hs, hι, hv => by
  have h1 : a.val ι N' w' v := asVal.mono (fun _ hx => AV.rel_solid hs hx) hv
  have h2 : a.val ι' N' w' v := AV.val.mono (N := N') (N' := N') (w := w') (w' := w') hι (fun _ h => h) (fun _ _ => rfl) h1
  exact h2
theorem CallOuts.mono {P : Program} {f : FuncId} {vs : List Value} {w : World} {R R' : Value → World → Prop} (h : CallOuts P f vs w R) (hR : ∀ u w', R u w' → R' u w') : CallOuts P f vs w R' := by
 unfold CallOuts at *
 split at h
 ·exact hR _ _ h
 ·refine Calls.mono h ?_
  rintro e w'' he
  cases e with
  | returned u => exact hR _ _ he
  | _ => exact he.elim
 ·exact h.elim
theorem flatC_ok {f : FuncId} {F : CSpec} (hF : CallOk C f F) : ContractOk C f (flatC F) := by
 refine ⟨fun args h nx k hk => ?_⟩
 unfold flatC at hk
 split at hk
 ·exact hk.elim
 rename_i as1 rdc hcl
 split at hk
 ·exact hk.elim
 rename_i cs hcs
 split at hk
 ·exact hk.elim
 rename_i p v hv
 obtain ⟨hs, hk⟩ := cond_prop hk
 obtain ⟨hp, hk⟩ := asking_split hk
 refine ⟨_, ?_, OpR.ok_read rfl, ?_, hk⟩
 ·intro ι N w vs hpre hvals
  let NB : Nat → Prop := fun k => ∃ q ∈ rdc, ∃ L, ι q.1 = some L ∧ L.ph = false ∧ k = L.blk
  let N0 : Nat → Prop := fun k => N k ∨ NB k
  have hN0 : ∀ k, N k → N0 k := fun k hk => .inl hk
  have hvals1 : valsRel ι N0 w as1 vs := (closeL_ok hcl).2 hN0 (fun q hq => by
   obtain ⟨L, h1, h2, _⟩ := hpre.rds q hq
   exact ⟨L, h1, h2, fun hph => .inr ⟨q, hq, L, h1, hph, rfl⟩⟩) vs hvals
  have henv : Env C N0 w := by
   refine ⟨?_, fun g blk hg => ?_⟩
   ·rintro k (hk | ⟨q, hq, L, hL, hph, rfl⟩)
    ·exact hpre.env.1 k hk
    ·obtain ⟨L', h1, h2, _⟩ := hpre.rds q hq
     rw [hL] at h1; injection h1 with h1; subst h1
     exact h2.lt hph
   ·obtain ⟨h1, ty, esz, body, xs, post, e, hl⟩ := hpre.env.2 g blk hg
    exact ⟨.inl h1, ty, esz, body, xs, post, e, hl.mono (fun _ _ h => h) hN0 (fun _ _ => rfl) rfl⟩
  refine (hF cs p v hv hp N0 w vs henv (cvArgs_rel hcs hvals1)).mono ?_
  rintro u w' ⟨hb, hu⟩
  have hP : Post ι N w ι N w' nx ⟨v, [], [], rdc⟩ := by
   constructor
   ·exact fun _ _ h => h
   ·exact fun _ _ h => .inl h
   ·exact fun _ h => h
   ·exact fun _ h => .inl h
   ·exact fun k hk => Nat.lt_of_lt_of_le (hpre.env.1 k hk) hb.size
   ·exact Upd.below hb _
   ·intro b blk h; cases h
   ·intro j blk h; simp at h
   ·intro i j Li Lj hi; simp at hi
  exact ⟨ι, N, hP, AV.solid_any (ι := fun _ => none) hs (fun b L h => by cases h) hu⟩
 ·intro q hq
  exact (closeL_ok (ι := fun _ => none) (w := default) hcl).1 q hq
theorem callOuts_of {P : Program} {f : FuncId} {vs : List Value} {w : World} {R : Value → World → Prop} (hfn : (P.funcs[f]?).map (fun fn => (fn.name == "runtime.NumGoroutine", fn.body.isSome)) = some (false, true))
  (h : Calls P f vs.toArray w fun e w' => ∃ u, e = .returned u ∧ R u w') : CallOuts P f vs w R := by
 unfold CallOuts
 rw [run_call w hfn]
 refine Calls.mono h ?_
 rintro e w' ⟨u, rfl, hu⟩
 exact hu
end
end Go.Ab
/- Functions: the rule, as the walks use it. -/
namespace Go.Ab
open Go Go.Chr Go.RowKit
section
variable {C : Ctx}
theorem TabOk.nil : TabOk C [] := fun _ _ h => by cases h
theorem TabOk.cons {f : FuncId} {F : Contract} {Γ : Tab} (h : ContractOk C f F) (t : TabOk C Γ) : TabOk C ((f, F) :: Γ) := by
 intro g G hg
 unfold getK at hg
 cases hb : Nat.beq g f with
 | true =>
  rw [hb] at hg
  injection hg with hg
  have := beqN hb
  subst this; subst hg
  exact h
 | false => rw [hb] at hg; exact t g G hg
theorem cond_intro {b : Bool} {p q : Prop} (h1 : b = true → p) (h2 : b = false → q) : cond b p q := by
 cases b with
 | true => exact h1 rfl
 | false => exact h2 rfl
noncomputable def shut {α : Type} (a : α) : α := Classical.choose (⟨a, rfl⟩ : ∃ b, b = a)
theorem shut_eq {α : Type} (a : α) : shut a = a := Classical.choose_spec (⟨a, rfl⟩ : ∃ b, b = a)
theorem guard_some {α : Type 1} {b : Bool} {x : Option α} {y : α} (h : (bif b then x else none) = some y) : b = true ∧ x = some y := by
 cases b with
 | true => exact ⟨rfl, h⟩
 | false => cases h
theorem kto {p q : Prop} (h : p = q) (hq : q) : p := h ▸ hq
def bodyOf' (fn : Func) : Code := fn.body.getD .skip
theorem cond_at {b : Bool} {p q : Prop} (hb : b = true) (h : p) : cond b p q := by rw [hb]; exact h
theorem cond_no {b : Bool} {p q : Prop} (hb : b = false) (h : q) : cond b p q := by rw [hb]; exact h
def blockAt (id : Nat) : Code → Option Code
 | .block i b => bif Nat.beq i id then some b else blockAt id b
 | .seq a b => match blockAt id a with
  | some c => some c
  | none => blockAt id b
 | .cond _ a b => match blockAt id a with
  | some c => some c
  | none => blockAt id b
 | .loop b => blockAt id b
 | _ => none
def inLoop : Option Code → Code
 | some (.loop b) => b
 | some b => b
 | none => .skip
end
end Go.Ab
/- What a state tells of the values that it names. -/
namespace Go.Ab
open Go Go.Chr Go.RowKit
def bytesOk (l : List Int) : Prop := ∀ x ∈ l, 0 ≤ x ∧ x < 256
def natFact (m x : Nat) : Prop := x < m ∧ m ≤ two256
def intsFact (k : IntKind) (l : List Int) : Prop := ∀ x ∈ l, okI k x
def arrFact (k : IntKind) (n : Nat) (l : List Int) : Prop := l.length = n ∧ ∀ x ∈ l, okI k x
def rowsFact.{u} {α : Type u} (p : α → Prop) (xs : List α) : Prop := ∀ (i : Nat) (y : α), xs[i]? = some y → p y
def Tag.fact : (t : Tag) → El t → Prop
 | .int k, n => okI k n
 | .bool, _ => True
 | .str, l => bytesOk l
 | .nat m, x => natFact m x
 | .arr k n, l => arrFact k n l
 | .nl, _ => True
 | .pr a b, p => a.fact p.1 ∧ b.fact p.2
 | .ints k, l => intsFact k l
 | .rows _ t, xs => rowsFact t.fact xs
def CV.fact : CV → Prop
 | .int k n => okI k n
 | .bool _ => True
 | .str l => bytesOk l
 | .raw _ => True
 | .nat m x => natFact m x
 | .arr k n l => arrFact k n l
 | .nl => True
 | .pr a b => a.fact ∧ b.fact
 | .ints k l => intsFact k l
 | .rows _ t xs => rowsFact t.fact xs
def AV.fact : AV → Prop
 | .c v => v.fact
 | .pr a b => a.fact ∧ b.fact
 | .t2 a b => a.fact ∧ b.fact
 | .t3 a b e => a.fact ∧ b.fact ∧ e.fact
 | _ => True
def Body.fact : Body → Prop
 | .ints k l => intsFact k l
 | .rows t xs => rowsFact t.fact xs
 | .els l => rowsFact AV.fact l
def Blk'.fact : Blk' → Prop
 | .cells _ _ b => b.fact
 | .map _ => True
def lenFact (h : Heap) : AV → Prop
 | .own b _ n => match getK h b with
  | some (.cells _ _ body) => n = body.len
  | _ => True
 | .sub b _ i n => match getK h b with
  | some (.cells _ _ body) => i + n ≤ body.len
  | _ => True
 | .pr a b => lenFact h a ∧ lenFact h b
 | _ => True
structure Facts (st : St) : Prop where
 sl : ∀ t v, getK st.sl t = some v → v.fact ∧ lenFact st.h v
 h : ∀ b blk, getK st.h b = some blk → blk.fact
section
variable {N : Nat → Prop} {w : World}
theorem bytesOk_of (s : ByteArray) : bytesOk (bytesOf s) := by
 intro x hx
 unfold bytesOf at hx
 obtain ⟨b, _, rfl⟩ := List.mem_map.1 hx
 have := b.toNat_lt
 omega
theorem Tag.rel_fact : ∀ {t : Tag} {a : El t} {cs : List Value}, t.rel N w a cs → t.fact a
 | .int _, _, _, h => h.2
 | .bool, _, _, _ => trivial
 | .str, _, _, ⟨s, _, e⟩ => by subst e; exact bytesOk_of s
 | .nat _, _, _, h => h.2
 | .arr _ _, _, _, h => h.2
 | .nl, _, _, _ => trivial
 | .pr _ _, _, _, ⟨_, _, _, h1, h2⟩ => ⟨Tag.rel_fact h1, Tag.rel_fact h2⟩
 | .ints _, _, _, h => h.2
 | .rows _ t, xs, _, ⟨ys, h1, _⟩ => fun i y hy => by
  obtain ⟨_, c2, _, _, _, _, h, _⟩ := relList_at (xs := xs) h1 hy
  exact Tag.rel_fact h
theorem CV.rel_fact : ∀ {v : CV} {cs : List Value}, v.rel N w cs → v.fact
 | .int _ _, _, h => h.2
 | .bool _, _, _ => trivial
 | .str _, _, ⟨s, _, e⟩ => by subst e; exact bytesOk_of s
 | .raw _, _, _ => trivial
 | .nat _ _, _, h => h.2
 | .arr _ _ _, _, h => h.2
 | .nl, _, _ => trivial
 | .pr _ _, _, ⟨_, _, _, h1, h2⟩ => ⟨CV.rel_fact h1, CV.rel_fact h2⟩
 | .ints _ _, _, h => h.2
 | .rows _ t xs, _, ⟨ys, h1, _⟩ => fun i y hy => by
  obtain ⟨_, c2, _, _, _, _, h, _⟩ := relList_at (xs := xs) h1 hy
  exact Tag.rel_fact h
variable {ι : Nat → Option Loc}
theorem AV.rel_fact : ∀ {a : AV} {cs : List Value}, a.rel ι N w cs → a.fact
 | .c v, _, h => CV.rel_fact (v := v) h
 | .pr a b, _, ⟨_, _, _, h1, h2⟩ => ⟨AV.rel_fact (a := a) h1, AV.rel_fact (a := b) h2⟩
 | .t2 a b, _, ⟨v1, v2, _, h1, h2⟩ => by
  refine ⟨?_, ?_⟩
  ·cases e : a.isAgg with
   | true => rw [e] at h1; obtain ⟨x, _, h1⟩ := h1; exact AV.rel_fact (a := a) h1
   | false => rw [e] at h1; exact AV.rel_fact (a := a) h1
  ·cases e : b.isAgg with
   | true => rw [e] at h2; obtain ⟨x, _, h2⟩ := h2; exact AV.rel_fact (a := b) h2
   | false => rw [e] at h2; exact AV.rel_fact (a := b) h2
 | .t3 a b c', _, ⟨v1, v2, v3, _, h1, h2, h3⟩ => by
  refine ⟨?_, ?_, ?_⟩
  ·cases e : a.isAgg with
   | true => rw [e] at h1; obtain ⟨x, _, h1⟩ := h1; exact AV.rel_fact (a := a) h1
   | false => rw [e] at h1; exact AV.rel_fact (a := a) h1
  ·cases e : b.isAgg with
   | true => rw [e] at h2; obtain ⟨x, _, h2⟩ := h2; exact AV.rel_fact (a := b) h2
   | false => rw [e] at h2; exact AV.rel_fact (a := b) h2
  ·cases e : c'.isAgg with
   | true => rw [e] at h3; obtain ⟨x, _, h3⟩ := h3; exact AV.rel_fact (a := c') h3
   | false => rw [e] at h3; exact AV.rel_fact (a := c') h3
 | .ptr _ _ _ _, _, _ => trivial
 | .cp _ _ _, _, _ => trivial
 | .own _ _ _, _, _ => trivial
 | .sub _ _ _ _, _, _ => trivial
 | .inn _ _ _ _ _ _, _, _ => trivial
 | .t0, _, _ => trivial
 | .fn _ _, _, _ => trivial
theorem AV.val_fact {a : AV} {v : Value} (h : a.val ι N w v) : a.fact := by
 unfold AV.val at h
 cases e : a.isAgg with
 | true => rw [e] at h; obtain ⟨x, _, h⟩ := h; exact AV.rel_fact h
 | false => rw [e] at h; exact AV.rel_fact h
theorem Body.rel_fact {esz : Nat} : ∀ {b : Body} {cs : List Value}, b.rel ι N w esz cs → b.fact
 | .ints _ _, _, h => h.2.2
 | .rows t xs, _, h => fun i y hy => by
  obtain ⟨_, c2, _, _, _, _, h, _⟩ := relList_at (xs := xs) h hy
  exact Tag.rel_fact h
 | .els l, _, h => fun i y hy => by
  obtain ⟨_, c2, _, _, _, _, h, _⟩ := relList_at (xs := l) h hy
  exact AV.rel_fact h
theorem BlkRel.fact {L : Loc} : ∀ {b : Blk'}, BlkRel ι N w L b → b.fact
 | .cells _ _ body, .inl ⟨_, h, _⟩ => Body.rel_fact (b := body) h
 | .cells _ _ body, .inr ⟨_, _, _, _, h, _⟩ => Body.rel_fact (b := body) h.2.2.1
 | .map _, _ => trivial
theorem BlkRel.len {L : Loc} {ty : TypeId} {e : Nat} {body : Body} (h : BlkRel ι N w L (.cells ty e body)) : body.len = L.len := by
 rcases h with ⟨_, _, h1, h2⟩ | ⟨_, _, _, _, h, _⟩
 ·rw [h1, h2]
 ·exact h.2.2.2
theorem lenFact_rel {h : Heap} (hb : ∀ b blk, getK h b = some blk → ∃ L, ι b = some L ∧ BlkRel ι N w L blk) : ∀ {a : AV} {cs : List Value}, a.rel ι N w cs → lenFact h a
 | .own b _ n, _, ⟨L, h1, h2, _⟩ => by
  unfold lenFact
  split
  ·rename_i ty e body hg
   obtain ⟨L', h3, h4⟩ := hb b _ hg
   rw [h1] at h3; injection h3 with h3; subst h3
   rw [h4.len, h2]
  ·trivial
 | .sub b _ i n, _, ⟨L, h1, h2, _⟩ => by
  unfold lenFact
  split
  ·rename_i ty e body hg
   obtain ⟨L', h3, h4⟩ := hb b _ hg
   rw [h1] at h3; injection h3 with h3; subst h3
   rw [h4.len]; exact h2
  ·trivial
 | .pr a b, _, ⟨_, _, _, h1, h2⟩ => ⟨lenFact_rel hb (a := a) h1, lenFact_rel hb (a := b) h2⟩
 | .c _, _, _ => trivial
 | .ptr _ _ _ _, _, _ => trivial
 | .cp _ _ _, _, _ => trivial
 | .inn _ _ _ _ _ _, _, _ => trivial
 | .t0, _, _ => trivial
 | .t2 _ _, _, _ => trivial
 | .t3 _ _ _, _, _ => trivial
 | .fn _ _, _, _ => trivial
end
section
variable {C : Ctx} {X : Snap}
theorem facts_of {st : St} {a : Act} {w : World} (H : SRel C X st a w) : Facts st := by
 obtain ⟨ι, N, H⟩ := H
 have hb : ∀ b blk, getK st.h b = some blk → ∃ L, ι b = some L ∧ BlkRel ι N w L blk := fun b blk h => by
  obtain ⟨L, h1, h2, _⟩ := H.blks b blk h
  exact ⟨L, h1, h2⟩
 refine ⟨fun t v ht => ?_, fun b blk h => ?_⟩
 ·have hv := H.slots t v ht
  refine ⟨AV.val_fact hv, ?_⟩
  unfold AV.val at hv
  cases e : v.isAgg with
  | true => rw [e] at hv; obtain ⟨x, _, hv⟩ := hv; exact lenFact_rel hb hv
  | false => rw [e] at hv; exact lenFact_rel hb hv
 ·obtain ⟨L, _, h2⟩ := hb b blk h
  exact BlkRel.fact h2
theorem walks_facts {st : St} {c : Code} {k : Exit → St → Prop} (h : Facts st → Walks C X c st k) : Walks C X c st k :=
 fun a w H => h (facts_of H) a w H
theorem fnOkF {f : FuncId} {F : FSpec} {Γ : Tab} {fn : Func} {c : Code} (hf : C.P.follows .mixedOrders = true) (hΓ : TabOk C Γ) (h1 : C.P.funcs[f]? = some fn) (h2 : fn.body = some c) (h3 : (fn.name == "runtime.NumGoroutine") = false)
  (h : ∀ as bl p o, F as bl = some (p, o) → Asked p → as.length ≤ fn.ntmps ∧ ∀ X : Snap, (∀ b L, X.ι b = some L → b < bl.length) → Facts (entry fn as bl) → ∃ cut fuel, wpL C (opK C Γ) cut X fuel c (entry fn as bl) (exitK C fn bl.length o)) : FnOk C f F :=
 ⟨fn, c, h1, h2, h3, fun as bl p o hF hp => by
  obtain ⟨g1, g2⟩ := h as bl p o hF hp
  refine ⟨g1, fun X _ hX => walks_facts fun hfa => ?_⟩
  obtain ⟨cut, fuel, h⟩ := g2 X hX hfa
  exact wpL_walks hf (opK_sound hΓ) fuel _ _ _ h⟩
end
end Go.Ab
/- Loops, as the walks use them. -/
namespace Go.Ab
open Go Go.Chr Go.RowKit
inductive Path : Type 1 where
 | slot (t : Nat) (z : Option (TypeId × Nat × Body) := none)
 | blk (b off : Nat) (z : Option (TypeId × Nat × Body) := none)
def emptyB (e : Nat) : Body → Bool
 | .ints _ [] => Nat.beq e 1
 | .rows _ [] => true
 | .els [] => true
 | _ => false
def heapD (h : Heap) : Option Nat → Heap
 | some b => delK b h
 | none => h
def reVal (st : St) (z : Option (TypeId × Nat × Body)) : AV → Option (Option (Option Nat × Blk' × AV))
 | .sub b e i n => match getK st.h b with
  | some (.cells ty e' body) => bif Nat.beq e e' then some (some (some b, .cells ty e (cutB i n body), .own st.nx e n)) else none
  | _ => none
 | .c (.raw (.slice none 0 0)) => match z with
  | some (ty, e, body) => bif emptyB e body then some (some (none, .cells ty e body, .own st.nx e 0)) else none
  | none => some none
 | _ => some none
def reS (st : St) (t : Nat) (z : Option (TypeId × Nat × Body)) : Option St := match getK st.sl t with
 | some v => match reVal st z v with
  | some (some (d, nb, u)) => some ⟨setK t u st.sl, setK st.nx nb (heapD st.h d), st.nx + 1, st.nt⟩
  | some none => some st
  | none => none
 | none => none
def isB (b : Nat) : Option Nat → Bool
 | some c => Nat.beq b c
 | none => false
def reB (st : St) (b0 off : Nat) (z : Option (TypeId × Nat × Body)) : Option St := match getK st.h b0 with
 | some (.cells ty0 e0 (.els [v])) => match subT v off 1 with
  | some x => match reVal st z x with
   | some (some (d, nb, u)) => bif !isB b0 d && Nat.ble (off + 1) v.size then (match setT (expandA v) off u with
     | some v' => some ⟨st.sl, setK b0 (.cells ty0 e0 (.els [v'])) (setK st.nx nb (heapD st.h d)), st.nx + 1, st.nt⟩
     | none => none) else none
   | some none => some st
   | none => none
  | none => none
 | some _ => some st
 | none => none
def re1 (st : St) : Path → Option St
 | .slot t z => reS st t z
 | .blk b0 off z => reB st b0 off z
def reown : List Path → St → Option St
 | [], st => some st
 | p :: ps, st => match re1 st p with
  | some st' => reown ps st'
  | none => none
def canonR (m : Nat) (ps : List Path) (ls : List Nat) (st : St) : Option St := match reown ps st with
 | some st' => canon m ls st'
 | none => none
section
variable {C : Ctx} {X : Snap}
theorem sub_own {ι : Nat → Option Loc} {N : Nat → Prop} {w : World} {b e i n : Nat} {cs : List Value} {L : Loc} {ty : TypeId} {body : Body} (hL : ι b = some L) (hb : BlkRel ι N w L (.cells ty e body)) (hs : (AV.sub b e i n).rel ι N w cs) :
  ∃ L', (L'.ph = false → L.ph = false ∧ L'.blk = L.blk) ∧ BlkRel ι N w L' (.cells ty e (cutB i n body)) ∧ ∀ (ι' : Nat → Option Loc) (k : Nat), ι' k = some L' → (AV.own k e n).rel ι' N w cs := by
 obtain ⟨L2, h1, hin, hs⟩ := hs
 rw [hL] at h1; injection h1 with h1; subst h1
 have hlen := BlkRel.len hb
 have ph : ∀ (A : Option Addr), n = 0 → cs = [.slice A 0 0] → (∃ xs, body.rel ι N w e xs) → ∃ L', (L'.ph = false → L.ph = false ∧ L'.blk = L.blk) ∧ BlkRel ι N w L' (.cells ty e (cutB i n body)) ∧ ∀ (ι' : Nat → Option Loc) (k : Nat), ι' k = some L' → (AV.own k e n).rel ι' N w cs := by
  rintro A rfl rfl ⟨xs, hx⟩
  have h2 := cutB_rel (i := i) (n := 0) hx
  simp only [Nat.zero_mul, List.take_zero] at h2
  exact ⟨⟨0, 0, 0, 0, true⟩, (fun h => by cases h), .inl ⟨rfl, h2, cutB_len (by omega), rfl⟩, fun ι' k hk => ⟨_, hk, rfl, .inl ⟨rfl, rfl, A, rfl⟩⟩⟩
 have hbody : ∃ xs, body.rel ι N w e xs := by
  rcases hb with ⟨_, h, _⟩ | ⟨_, _, xs, _, h, _⟩
  ·exact ⟨[], h⟩
  ·exact ⟨xs, h.2.2.1⟩
 rcases hs with ⟨_, h0, A, rfl⟩ | ⟨hph, A, c, rfl, hc, hAb, hAs, hA⟩
 ·exact ph A h0 rfl hbody
 ·rcases Nat.eq_zero_or_pos c with h0 | h0
  ·subst h0
   have hn : n = 0 := by omega
   subst hn
   exact ph (some A) rfl rfl hbody
  ·obtain ⟨a1, a2⟩ := hA h0
   rcases hb with ⟨hp', _⟩ | ⟨_, pre, xs, post, hl, ht⟩
   ·rw [hph] at hp'; cases hp'
   ·have hx := hl.2.2.1
    have hxl := hx.len
    have hbl := hl.2.2.2
    have hcut := cutB_rel (i := i) (n := n) hx
    have h5 : i * e + n * e ≤ xs.length := by
     rw [hxl, ← Nat.add_mul]
     exact Nat.mul_le_mul_right _ (by omega)
    refine ⟨⟨L.blk, L.off + i * e, L.tot, n, false⟩, fun _ => ⟨hph, rfl⟩, .inr ⟨rfl, pre ++ xs.take (i * e), (xs.drop (i * e)).take (n * e), (xs.drop (i * e)).drop (n * e) ++ post, ⟨?_, ?_, hcut, cutB_len (by omega)⟩, ?_⟩, fun ι' k hk => ⟨_, hk, rfl, .inr ⟨rfl, c, ?_, hc, ?_⟩⟩⟩
    ·have : pre ++ xs.take (i * e) ++ ((xs.drop (i * e)).take (n * e) ++ ((xs.drop (i * e)).drop (n * e) ++ post)) = pre ++ (xs ++ post) := by
      rw [← List.append_assoc ((xs.drop (i * e)).take (n * e)), List.take_append_drop, List.append_assoc, ← List.append_assoc (xs.take (i * e)), List.take_append_drop]
     rw [this]; exact hl.1
    ·rw [List.length_append, hl.2.1, List.length_take]
     show L.off + min (i * e) xs.length = L.off + i * e
     omega
    ·rw [← ht]
     simp only [List.length_append, List.length_take, List.length_drop]
     omega
    ·rw [eta_addr hAb hAs a1]
    ·show L.off + i * e + c * e ≤ L.tot
     omega
theorem rel_new {st : St} {ι : Nat → Option Loc} {N : Nat → Prop} {a : Act} {w : World} (H : Rel C X ι N st a w) (L' : Loc) : (∀ b L, ι b = some L → addι ι st.nx L' b = some L) := by
 intro b L h
 have : b < st.nx := H.fresh b L h
 unfold addι
 rw [if_neg (by omega)]; exact h
theorem empty_rel {ι : Nat → Option Loc} {N : Nat → Prop} {w : World} {e : Nat} : ∀ {b : Body}, emptyB e b = true → b.rel ι N w e [] ∧ b.len = 0
 | .ints _ [], h => ⟨⟨beqN h, rfl, fun x hx => by cases hx⟩, rfl⟩
 | .rows _ [], _ => ⟨rfl, rfl⟩
 | .els [], _ => ⟨rfl, rfl⟩
 | .ints _ (_ :: _), h => by cases h
 | .rows _ (_ :: _), h => by cases h
 | .els (_ :: _), h => by cases h
theorem re_core {st : St} {ι : Nat → Option Loc} {N : Nat → Prop} {a : Act} {w : World} (H : Rel C X ι N st a w) (d : Option Nat) (L' : Loc) (nb : Blk') (hnb : BlkRel ι N w L' nb)
  (hp : L'.ph = false → ∃ b L blk, d = some b ∧ getK st.h b = some blk ∧ ι b = some L ∧ L.ph = false ∧ L'.blk = L.blk) :
  Rel C X (addι ι st.nx L') N ⟨st.sl, setK st.nx nb (heapD st.h d), st.nx + 1, st.nt⟩ a w := by
 have hold := rel_new H L'
 have hdel : ∀ b blk, getK (heapD st.h d) b = some blk → getK st.h b = some blk ∧ d ≠ some b := by
  intro b blk h
  cases d with
  | none => exact ⟨h, fun e => by cases e⟩
  | some c =>
   have h : getK (delK c st.h) b = some blk := h
   rw [getK_delK] at h
   split at h
   ·cases h
   ·rename_i hc; exact ⟨h, fun e => by injection e with e; exact hc e⟩
 have hget : ∀ b blk, getK (setK st.nx nb (heapD st.h d)) b = some blk → (b = st.nx ∧ blk = nb) ∨ (b ≠ st.nx ∧ getK st.h b = some blk ∧ d ≠ some b) := by
  intro b blk h
  rw [getK_setK] at h
  split at h
  ·rename_i e; injection h with h; exact .inl ⟨e.symm, h.symm⟩
  ·rename_i e; obtain ⟨h1, h2⟩ := hdel b blk h; exact .inr ⟨fun e2 => e e2.symm, h1, h2⟩
 refine ⟨fun s v hs => (H.slots s v hs).mono hold (fun _ h => h) (fun _ _ => rfl), ?_, ?_, H.env, ?_, H.n0, H.nN, fun b' L2 h => hold b' L2 (H.i0 b' L2 h), H.upd, H.size, H.ds⟩
 ·intro b blk h
  rcases hget b blk h with ⟨rfl, rfl⟩ | ⟨_, h, _⟩
  ·refine ⟨L', by simp [addι], hnb.mono hold (fun _ h => h) (fun _ _ => rfl) (fun _ => rfl), fun hph => ?_⟩
   obtain ⟨b, L, blk, rfl, h1, h2, h3, h4⟩ := hp hph
   obtain ⟨L2, m1, _, m3⟩ := H.blks b blk h1
   rw [h2] at m1; injection m1 with m1; subst m1
   rw [h4]; exact m3 h3
  ·obtain ⟨L2, m1, m2, m3⟩ := H.blks b blk h
   exact ⟨L2, hold _ _ m1, m2.mono hold (fun _ h => h) (fun _ _ => rfl) (fun _ => rfl), m3⟩
 ·have hnm : ∀ b' blk L2, getK (setK st.nx nb (heapD st.h d)) b' = some blk → addι ι st.nx L' b' = some L2 → L2.ph = false →
    ∃ b'' blk'' L3, getK st.h b'' = some blk'' ∧ ι b'' = some L3 ∧ L3.ph = false ∧ L3.blk = L2.blk ∧ ((b' = st.nx ∧ d = some b'') ∨ (b' ≠ st.nx ∧ d ≠ some b' ∧ b'' = b')) := by
   intro b' blk L2 hg h2 hp2
   rcases hget b' blk hg with ⟨rfl, rfl⟩ | ⟨n1, hg, n3⟩
   ·have h2 : L' = L2 := by simpa [addι] using h2
    subst h2
    obtain ⟨b, L, blk, h0, h1, h2, h3, h4⟩ := hp hp2
    exact ⟨b, blk, L, h1, h2, h3, h4.symm, .inl ⟨rfl, h0⟩⟩
   ·unfold addι at h2
    rw [if_neg n1] at h2
    exact ⟨_, _, L2, hg, h2, hp2, rfl, .inr ⟨n1, n3, rfl⟩⟩
  intro b1 b2 blk1 blk2 L1 L2 hg1 hg2 hne h1 h2 hp1 hp2
  obtain ⟨c1', d1, M1, g1, i1, r1, e1, o1⟩ := hnm b1 blk1 L1 hg1 h1 hp1
  obtain ⟨c2', d2, M2, g2, i2, r2, e2, o2⟩ := hnm b2 blk2 L2 hg2 h2 hp2
  rw [← e1, ← e2]
  refine H.inj c1' c2' d1 d2 M1 M2 g1 g2 ?_ i1 i2 r1 r2
  rcases o1 with ⟨u1, u2⟩ | ⟨u1, u2, u3⟩ <;> rcases o2 with ⟨v1, v2⟩ | ⟨v1, v2, v3⟩
  ·exact absurd (u1.trans v1.symm) hne
  ·rw [v3]; exact fun e => v2 (by rw [← e]; exact u2)
  ·rw [u3]; exact fun e => u2 (by rw [e]; exact v2)
  ·rw [u3, v3]; exact hne
 ·intro b' L2 h2
  unfold addι at h2
  split at h2
  ·rename_i eb; subst eb; show st.nx < st.nx + 1; omega
  ·have := H.fresh b' L2 h2
   show b' < st.nx + 1; omega
theorem slot_core {st : St} {ι : Nat → Option Loc} {N : Nat → Prop} {a : Act} {w : World} (H : Rel C X ι N st a w) {t : Nat} {u : AV} (hu : u.val ι N w (a.tmps.getD t undef)) : Rel C X ι N ⟨setK t u st.sl, st.h, st.nx, st.nt⟩ a w := by
 refine ⟨?_, H.blks, H.inj, H.env, H.fresh, H.n0, H.nN, H.i0, H.upd, H.size, H.ds⟩
 intro s v hs
 have hs : getK (setK t u st.sl) s = some v := hs
 rw [getK_setK] at hs
 split at hs
 ·rename_i e; injection hs with hs; subst hs; subst e; exact hu
 ·exact H.slots s v hs
theorem blk_core {st : St} {ι : Nat → Option Loc} {N : Nat → Prop} {a : Act} {w : World} (H : Rel C X ι N st a w) {b : Nat} {blk blk' : Blk'} (hb : getK st.h b = some blk) (h : ∀ L, ι b = some L → BlkRel ι N w L blk → BlkRel ι N w L blk') : Rel C X ι N ⟨st.sl, setK b blk' st.h, st.nx, st.nt⟩ a w := by
 have hget : ∀ c x, getK (setK b blk' st.h) c = some x → ∃ y, getK st.h c = some y ∧ (c = b ∧ x = blk' ∨ c ≠ b ∧ x = y) := by
  intro c x hx
  rw [getK_setK] at hx
  split at hx
  ·rename_i e; injection hx with hx; subst e; exact ⟨blk, hb, .inl ⟨rfl, hx.symm⟩⟩
  ·rename_i e; exact ⟨x, hx, .inr ⟨fun e2 => e e2.symm, rfl⟩⟩
 refine ⟨H.slots, ?_, ?_, H.env, H.fresh, H.n0, H.nN, H.i0, H.upd, H.size, H.ds⟩
 ·intro c x hx
  obtain ⟨y, hy, hc⟩ := hget c x hx
  obtain ⟨L, m1, m2, m3⟩ := H.blks c y hy
  rcases hc with ⟨rfl, rfl⟩ | ⟨_, rfl⟩
  ·rw [hb] at hy; injection hy with hy; subst hy
   exact ⟨L, m1, h L m1 m2, m3⟩
  ·exact ⟨L, m1, m2, m3⟩
 ·intro b1 b2 x1 x2 L1 L2 h1 h2 hne
  obtain ⟨y1, k1, _⟩ := hget b1 x1 h1
  obtain ⟨y2, k2, _⟩ := hget b2 x2 h2
  exact H.inj b1 b2 y1 y2 L1 L2 k1 k2 hne
theorem reVal_ok {st : St} {ι : Nat → Option Loc} {N : Nat → Prop} {a : Act} {w : World} (H : Rel C X ι N st a w) {z : Option (TypeId × Nat × Body)} {v u : AV} {d : Option Nat} {nb : Blk'} (h : reVal st z v = some (some (d, nb, u))) {x : Value} (hv : v.rel ι N w [x]) :
  (∃ L', BlkRel ι N w L' nb ∧ (L'.ph = false → ∃ b L blk, d = some b ∧ getK st.h b = some blk ∧ ι b = some L ∧ L.ph = false ∧ L'.blk = L.blk) ∧ ∀ (ι' : Nat → Option Loc), ι' st.nx = some L' → u.rel ι' N w [x]) ∧ u.isAgg = false ∧ u.size = 1 ∧ ∃ e n, u = .own st.nx e n := by
 unfold reVal at h
 split at h
 ·rename_i b e i n
  split at h
  ·rename_i ty e' body hb
   cases he : Nat.beq e e' with
   | false => rw [he] at h; cases h
   | true =>
   rw [he] at h
   have := beqN he; subst this
   injection h with h; injection h with h; injection h with h1 h2; injection h2 with h2 h3; subst h1; subst h2; subst h3
   obtain ⟨L, l1, l2, l3⟩ := H.blks b _ hb
   obtain ⟨L', k1, k2, k3⟩ := sub_own l1 l2 hv
   exact ⟨⟨L', k2, fun hph => ⟨b, L, _, rfl, hb, l1, (k1 hph).1, (k1 hph).2⟩, fun ι' hi => k3 ι' _ hi⟩, rfl, rfl, e, n, rfl⟩
  ·cases h
 ·split at h
  ·rename_i ty e body
   cases hem : emptyB e body with
   | false => rw [hem] at h; cases h
   | true =>
   rw [hem] at h
   injection h with h; injection h with h; injection h with h1 h2; injection h2 with h2 h3; subst h1; subst h2; subst h3
   obtain ⟨g1, g2⟩ := empty_rel (ι := ι) (N := N) (w := w) hem
   refine ⟨⟨⟨0, 0, 0, 0, true⟩, .inl ⟨rfl, g1, g2, rfl⟩, (fun hph => by cases hph), fun ι' hi => ⟨_, hi, rfl, .inl ⟨rfl, rfl, none, ?_⟩⟩⟩, rfl, rfl, e, 0, rfl⟩
   obtain ⟨hx, _⟩ : [x] = [Value.slice none 0 0] ∧ _ := hv
   exact hx
  ·cases h
 ·cases h
theorem re1_rel {st st' : St} {p : Path} {a : Act} {w : World} (h : re1 st p = some st') (H : SRel C X st a w) : SRel C X st' a w := by
 obtain ⟨ι, N, H⟩ := H
 cases p with
 | slot t z =>
  have h : reS st t z = some st' := h
  unfold reS at h
  split at h
  ·rename_i v ht
   split at h
   ·rename_i d nb u hre
    injection h with h; subst h
    have hv := H.slots t _ ht
    have hag : v.isAgg = false := by
     unfold reVal at hre
     split at hre
     ·rfl
     ·rfl
     ·cases hre
    have hvr : v.rel ι N w [a.tmps.getD t undef] := by unfold AV.val at hv; rw [hag] at hv; exact hv
    obtain ⟨⟨L', k1, k2, k3⟩, hu, _⟩ := reVal_ok H hre hvr
    have H' := re_core H d L' nb k1 k2
    refine ⟨addι ι st.nx L', N, slot_core H' ?_⟩
    unfold AV.val
    rw [hu]
    exact k3 _ (by simp [addι])
   ·injection h with h; subst h; exact ⟨ι, N, H⟩
   ·cases h
  ·cases h
 | blk b0 off z =>
  have h : reB st b0 off z = some st' := h
  unfold reB at h
  split at h
  ·rename_i ty0 e0 v hb0
   split at h
   ·rename_i x hsub
    split at h
    ·rename_i d nb u hre
     cases hc : !isB b0 d && Nat.ble (off + 1) v.size with
     | false => rw [hc] at h; cases h
     | true =>
     rw [hc] at h
     simp only [cond_true] at h
     simp only [Bool.and_eq_true, Bool.not_eq_true'] at hc
     have hoff := bleN hc.2
     split at h
     ·rename_i v' hset
      injection h with h; subst h
      obtain ⟨L0, q1, q2, q3⟩ := H.blks b0 _ hb0
      rcases q2 with ⟨_, _, q2, _⟩ | ⟨hph0, pre, xs, post, hl0, ht0⟩
      ·simp [Body.len] at q2
      have hx := hl0.2.2.1
      obtain ⟨c1, c2, rfl, hcl, hv, rfl⟩ := hx
      have hvr := subT_rel hv hoff hsub
      have hvl := hv.len
      have h1l : ((c1.drop off).take 1).length = 1 := by rw [List.length_take, List.length_drop]; omega
      obtain ⟨y, hy⟩ : ∃ y, (c1.drop off).take 1 = [y] := by
       match (c1.drop off).take 1, h1l with
       | [y], _ => exact ⟨y, rfl⟩
      rw [hy] at hvr
      obtain ⟨⟨L', k1, k2, k3⟩, _, hus, _⟩ := reVal_ok H hre hvr
      have H' := re_core H d L' nb k1 k2
      have hold := rel_new H L'
      have hv2 : v.rel (addι ι st.nx L') N w c1 := hv.mono hold (fun _ h => h) (fun _ _ => rfl)
      have hv' := setT_rel (expandA_rel hv2) (k3 (addι ι st.nx L') (by simp [addι])) (by rw [expandA_size, hus]; exact hoff) hset
      have hcells : c1.take off ++ ([y] ++ c1.drop (off + [y].length)) = c1 := by
       rw [← hy, h1l, ← List.drop_drop, List.take_append_drop, List.take_append_drop]
      rw [hcells] at hv'
      have hb0lt : b0 ≠ st.nx := fun e => by have := H.fresh b0 L0 q1; omega
      have hb0' : getK (setK st.nx nb (heapD st.h d)) b0 = some (.cells ty0 e0 (.els [v])) := by
       rw [getK_setK, if_neg (fun e => hb0lt e.symm)]
       cases d with
       | none => exact hb0
       | some c =>
        show getK (delK c st.h) b0 = _
        rw [getK_delK, if_neg]
        ·exact hb0
        ·rintro rfl
         have h5 : Nat.beq c c = false := hc.1
         rw [Nat.beq_refl] at h5; cases h5
      refine ⟨addι ι st.nx L', N, blk_core H' hb0' fun L hL hr => ?_⟩
      unfold addι at hL
      rw [if_neg hb0lt, q1] at hL
      injection hL with hL; subst hL
      exact .inr ⟨hph0, pre, c1 ++ [], post, ⟨hl0.1, hl0.2.1, ⟨c1, [], rfl, hcl, hv', rfl⟩, hl0.2.2.2⟩, ht0⟩
     ·cases h
    ·injection h with h; subst h; exact ⟨ι, N, H⟩
    ·cases h
   ·cases h
  ·injection h with h; subst h; exact ⟨ι, N, H⟩
  ·cases h
theorem reown_rel : ∀ {ps : List Path} {st st' : St} {a : Act} {w : World}, reown ps st = some st' → SRel C X st a w → SRel C X st' a w
 | [], _, _, _, _, h, H => by injection h with h; subst h; exact H
 | p :: ps, st, st', a, w, h, H => by
  unfold reown at h
  split at h
  ·rename_i s hs; exact reown_rel h (re1_rel hs H)
  ·cases h
theorem canonR_rel {m : Nat} {ps : List Path} {ls : List Nat} {st st' : St} {a : Act} {w : World} (hX : ∀ b L, X.ι b = some L → b < m) (h : canonR m ps ls st = some st') (H : SRel C X st a w) : SRel C X st' a w := by
 unfold canonR at h
 split at h
 ·rename_i s hs; exact canon_rel hX h (reown_rel hs H)
 ·cases h
end
def loopAt (id : Nat) (fn : Func) : Code := (blockAt id (bodyOf' fn)).getD .skip
def rndAt (id : Nat) (fn : Func) : Code := inLoop (blockAt id (bodyOf' fn))
def loopW (m : Nat) (ps : List Path) (lsI : List Nat) (start : St) (p : Prop) (ret : Bool) (fin : St) : LoopC := fun st k => canonR m ps lsI st = some start ∧ p ∧ cond ret (k .ret fin) (k .normal fin)
def endK (m : Nat) (ps : List Path) (lsO lsR : List Nat) (ret : Bool) (fin : St) : Exit → St → Prop
 | .normal, st => ret = false ∧ canonR m ps lsO st = some fin
 | .ret, st => ret = true ∧ canonR m [] lsR st = some fin
 | _, _ => False
section
variable {C : Ctx} {X : Snap}
theorem loopW_ok {Γ : Tab} (hf : C.P.follows .mixedOrders = true) (hΓ : TabOk C Γ) {fn : Func} {id : Nat} (he : loopAt id fn = .loop (rndAt id fn)) {m : Nat} (hX : ∀ b L, X.ι b = some L → b < m)
  {ps : List Path} {lsI : List Nat} (lsO lsR : List Nat) {start fin : St} {p : Prop} {ret : Bool} {α : Type} (I : α → St) (P : α → Prop) (μ : α → Nat) (v0 : α) (hs : p → I v0 = start) (hp : p → P v0)
  (round : p → ∀ v, P v → Facts (I v) → ∃ cut fuel, wpL C (opK C Γ) cut X fuel (rndAt id fn) (I v) (thenK (fun st' => ∃ v', canonR m ps lsI st' = some (I v') ∧ μ v' < μ v ∧ P v') (blockK id (endK m ps lsO lsR ret fin)))) :
  LOk C X id (loopAt id fn) (loopW m ps lsI start p ret fin) := by
 rw [he]
 rintro st k ⟨h1, h2, h3⟩
 rw [← hs h2] at h1
 have hw : ∀ v, P v → Walks C X (.block id (.loop (rndAt id fn))) (I v) (endK m ps lsO lsR ret fin) := by
  intro v hv
  refine walks_block ?_
  refine walks_loop (fun n st => ∃ v, μ v = n ∧ P v ∧ ∀ a w, SRel C X st a w → SRel C X (I v) a w) ?_ (μ v) (I v) ⟨v, rfl, hv, fun _ _ H => H⟩
  rintro n st ⟨v, rfl, hP, hrel⟩
  have hr : Walks C X (rndAt id fn) (I v) (thenK (fun st' => ∃ v', canonR m ps lsI st' = some (I v') ∧ μ v' < μ v ∧ P v') (blockK id (endK m ps lsO lsR ret fin))) :=
   walks_facts fun hfa => by
    obtain ⟨cut, fuel, h⟩ := round h2 v hP hfa
    exact wpL_walks hf (opK_sound hΓ) fuel _ _ _ h
  intro a w H
  refine wp_mono (hr a w (hrel a w H)) ?_
  rintro e a' w' ⟨st', H', hk⟩
  refine ⟨st', H', ?_⟩
  cases e with
  | normal =>
   obtain ⟨v', e1, e2, e3⟩ := hk
   exact ⟨μ v', e2, v', rfl, e3, fun a w H => canonR_rel hX e1 H⟩
  | exit i => exact hk
  | goto l => exact hk
  | ret => exact hk
  | panic ch => exact hk
  | outgrown => exact hk
 intro a w H
 refine wp_mono (hw v0 (hp h2) a w (canonR_rel hX h1 H)) ?_
 rintro e a' w' ⟨st', H', hk⟩
 cases e with
 | normal =>
  obtain ⟨e1, e2⟩ := hk
  rw [e1] at h3
  exact ⟨fin, canonR_rel hX e2 H', h3⟩
 | ret =>
  obtain ⟨e1, e2⟩ := hk
  rw [e1] at h3
  exact ⟨fin, canonR_rel hX e2 H', h3⟩
 | exit i => exact hk.elim
 | goto l => exact hk.elim
 | panic ch => exact hk.elim
 | outgrown => exact hk.elim
def loopR (m : Nat) (ps : List Path) (lsI : List Nat) (start : St) (p : Prop) (ret : Bool) (fin finR : St) : LoopC := fun st k => canonR m ps lsI st = some start ∧ p ∧ cond ret (k .ret finR) (k .normal fin)
def endR (m : Nat) (ps psR : List Path) (lsO lsR : List Nat) (ret : Bool) (fin finR : St) : Exit → St → Prop
 | .normal, st => ret = false ∧ canonR m ps lsO st = some fin
 | .ret, st => ret = true ∧ canonR m psR lsR st = some finR
 | _, _ => False
theorem loopR_ok {Γ : Tab} (hf : C.P.follows .mixedOrders = true) (hΓ : TabOk C Γ) {fn : Func} {id : Nat} (he : loopAt id fn = .loop (rndAt id fn)) {m : Nat} (hX : ∀ b L, X.ι b = some L → b < m)
  {ps : List Path} (psR : List Path) {lsI : List Nat} (lsO lsR : List Nat) {start fin finR : St} {p : Prop} {ret : Bool} {α : Type} (I : α → St) (P : α → Prop) (μ : α → Nat) (v0 : α) (hs : p → I v0 = start) (hp : p → P v0)
  (round : p → ∀ v, P v → Facts (I v) → ∃ cut fuel, wpL C (opK C Γ) cut X fuel (rndAt id fn) (I v) (thenK (fun st' => ∃ v', canonR m ps lsI st' = some (I v') ∧ μ v' < μ v ∧ P v') (blockK id (endR m ps psR lsO lsR ret fin finR)))) :
  LOk C X id (loopAt id fn) (loopR m ps lsI start p ret fin finR) := by
 rw [he]
 rintro st k ⟨h1, h2, h3⟩
 rw [← hs h2] at h1
 have hw : ∀ v, P v → Walks C X (.block id (.loop (rndAt id fn))) (I v) (endR m ps psR lsO lsR ret fin finR) := by
  intro v hv
  refine walks_block ?_
  refine walks_loop (fun n st => ∃ v, μ v = n ∧ P v ∧ ∀ a w, SRel C X st a w → SRel C X (I v) a w) ?_ (μ v) (I v) ⟨v, rfl, hv, fun _ _ H => H⟩
  rintro n st ⟨v, rfl, hP, hrel⟩
  have hr : Walks C X (rndAt id fn) (I v) (thenK (fun st' => ∃ v', canonR m ps lsI st' = some (I v') ∧ μ v' < μ v ∧ P v') (blockK id (endR m ps psR lsO lsR ret fin finR))) :=
   walks_facts fun hfa => by
    obtain ⟨cut, fuel, h⟩ := round h2 v hP hfa
    exact wpL_walks hf (opK_sound hΓ) fuel _ _ _ h
  intro a w H
  refine wp_mono (hr a w (hrel a w H)) ?_
  rintro e a' w' ⟨st', H', hk⟩
  refine ⟨st', H', ?_⟩
  cases e with
  | normal =>
   obtain ⟨v', e1, e2, e3⟩ := hk
   exact ⟨μ v', e2, v', rfl, e3, fun a w H => canonR_rel hX e1 H⟩
  | exit i => exact hk
  | goto l => exact hk
  | ret => exact hk
  | panic ch => exact hk
  | outgrown => exact hk
 intro a w H
 refine wp_mono (hw v0 (hp h2) a w (canonR_rel hX h1 H)) ?_
 rintro e a' w' ⟨st', H', hk⟩
 cases e with
 | normal =>
  obtain ⟨e1, e2⟩ := hk
  rw [e1] at h3
  exact ⟨fin, canonR_rel hX e2 H', h3⟩
 | ret =>
  obtain ⟨e1, e2⟩ := hk
  rw [e1] at h3
  exact ⟨finR, canonR_rel hX e2 H', h3⟩
 | exit i => exact hk.elim
 | goto l => exact hk.elim
 | panic ch => exact hk.elim
 | outgrown => exact hk.elim
def exitR (C : Ctx) (fn : Func) (m : Nat) (ps : List Path) (o : Out) (e : Exit) (st : St) : Prop := match reown ps st with
 | some st' => exitK C fn m o e st'
 | none => False
theorem fnOkR {f : FuncId} {F : FSpec} {Γ : Tab} {fn : Func} {c : Code} (ps : List Path) (hf : C.P.follows .mixedOrders = true) (hΓ : TabOk C Γ) (h1 : C.P.funcs[f]? = some fn) (h2 : fn.body = some c) (h3 : (fn.name == "runtime.NumGoroutine") = false)
  (h : ∀ as bl p o, F as bl = some (p, o) → Asked p → as.length ≤ fn.ntmps ∧ ∀ X : Snap, (∀ b L, X.ι b = some L → b < bl.length) → Facts (entry fn as bl) → ∃ cut fuel, wpL C (opK C Γ) cut X fuel c (entry fn as bl) (exitR C fn bl.length ps o)) : FnOk C f F :=
 ⟨fn, c, h1, h2, h3, fun as bl p o hF hp => by
  obtain ⟨g1, g2⟩ := h as bl p o hF hp
  refine ⟨g1, fun X _ hX => walks_facts fun hfa => ?_⟩
  obtain ⟨cut, fuel, h⟩ := g2 X hX hfa
  have hw := wpL_walks hf (opK_sound hΓ) fuel _ _ _ h
  intro a w H
  refine wp_mono (hw a w H) ?_
  rintro e a' w' ⟨st', H', hk⟩
  unfold exitR at hk
  split at hk
  ·rename_i st2 hre
   exact ⟨st2, reown_rel hre H', hk⟩
  ·exact hk.elim⟩
end
end Go.Ab
/- Contracts that rest on what was proved without the abstract machine: closed values in, a new slice of numbers out. -/
namespace Go.Ab
open Go Go.Chr Go.RowKit
abbrev OSpec := List CV → Option (Option Prop × List Int)
def flatO (t : TypeId) (kd : IntKind) (F : OSpec) : Contract := fun as h nx k => match closeL h (trues as) as with
 | none => False
 | some (as1, rdc) => match cvArgs as1 with
  | none => False
  | some cs => match F cs with
   | none => False
   | some (p, l) => asking p (k ⟨.own nx 1 l.length, [], [.cells t 1 (.ints kd l)], rdc⟩)
def CallOkO (C : Ctx) (t : TypeId) (kd : IntKind) (f : FuncId) (F : OSpec) : Prop := ∀ cs p l, F cs = some (p, l) → Asked p → ∀ (N : Nat → Prop) (w : World) (vs : List Value), Env C N w → cvsRel N w cs vs →
 CallOuts C.P f vs w fun u w' => Below w.heap.size w w' ∧ OI w' w.heap.size t kd u l ∧ ∀ x ∈ l, okI kd x
section
variable {C : Ctx}
theorem Post.ofOwn {ι : Nat → Option Loc} {N : Nat → Prop} {w w' : World} {nx : Nat} {r : OpR} {t : TypeId} {kd : IntKind} {l : List Int} {u : Value} (hp : Pre C ι N w nx r) (hu : r.upd = []) (hn : r.news = [.cells t 1 (.ints kd l)]) (hb : Below w.heap.size w w')
  (ho : OI w' w.heap.size t kd u l) (hl : ∀ x ∈ l, okI kd x) : ∃ ι', Post ι N w ι' N w' nx r ∧ (AV.own nx 1 l.length).val ι' N w' u := by
 have hfree : ι nx = none := by simpa using hp.fresh 0 (by rw [hn]; simp)
 obtain ⟨hlen, ho⟩ := ho
 simp only [List.length_map, Nat.mul_one] at hlen
 rcases ho with ⟨rfl, h0⟩ | ⟨g, cap, cur, rfl, hg, hh, hc, _, hsz, htk⟩
 ·refine ⟨addι ι nx ⟨0, 0, 0, 0, true⟩, ?_, ?_⟩
  ·refine ⟨addι_old hfree, ?_, fun _ h => h, fun _ h => .inl h, fun k hk => Nat.lt_of_lt_of_le (hp.env.1 k hk) hb.size, Upd.below hb _, (fun b blk h => by rw [hu] at h; cases h), ?_, ?_⟩
   ·intro b L' h
    unfold addι at h
    split at h
    ·rename_i e; subst e; exact .inr ⟨Nat.le_refl _, by rw [hn]; simp⟩
    ·exact .inl h
   ·intro j blk h
    rw [hn] at h
    cases j with
    | zero =>
     simp at h; subst h
     have : l = [] := List.length_eq_zero_iff.1 h0
     subst this
     exact ⟨⟨0, 0, 0, 0, true⟩, by simp [addι], .inl ⟨rfl, ⟨rfl, rfl, by simp⟩, rfl, rfl⟩, fun h => by cases h⟩
    | succ j => simp at h
   ·intro i j Li Lj hi hj hne
    rw [hn] at hi hj
    simp at hi hj; omega
  ·exact ⟨⟨0, 0, 0, 0, true⟩, by simp [addι], h0.symm, .inl ⟨rfl, h0, none, rfl⟩⟩
 ·have hlt : g < w'.heap.size := (Array.getElem?_eq_some_iff.1 hh).1
  refine ⟨addι ι nx ⟨g, 0, cap * 1, l.length, false⟩, ?_, ?_⟩
  ·refine ⟨addι_old hfree, ?_, fun _ h => h, fun _ h => .inl h, fun k hk => Nat.lt_of_lt_of_le (hp.env.1 k hk) hb.size, Upd.below hb _, (fun b blk h => by rw [hu] at h; cases h), ?_, ?_⟩
   ·intro b L' h
    unfold addι at h
    split at h
    ·rename_i e; subst e; exact .inr ⟨Nat.le_refl _, by rw [hn]; simp⟩
    ·exact .inl h
   ·intro j blk h
    rw [hn] at h
    cases j with
    | zero =>
     simp at h; subst h
     refine ⟨⟨g, 0, cap * 1, l.length, false⟩, by simp [addι], .inr ⟨rfl, [], l.map (.int kd), cur.toList.drop l.length, ⟨?_, rfl, ⟨rfl, rfl, hl⟩, rfl⟩, ?_⟩, fun _ => ⟨fun hN => ?_, .inl hg⟩⟩
     ·rw [List.nil_append]
      rw [Nat.mul_one] at htk
      show w'.heap[g]? = _
      rw [hh, ← htk, List.take_append_drop]
     ·simp; omega
     ·have := hp.env.1 _ hN
      simp at this; omega
    | succ j => simp at h
   ·intro i j Li Lj hi hj hne
    rw [hn] at hi hj
    simp at hi hj; omega
  ·exact ⟨⟨g, 0, cap * 1, l.length, false⟩, by simp [addι], rfl, .inr ⟨rfl, cap, rfl, hc, by simp⟩⟩
theorem env_more {ι : Nat → Option Loc} {N : Nat → Prop} {w : World} {nx : Nat} {r : OpR} (hpre : Pre C ι N w nx r) {rdc : List (Nat × Blk')} (hr : ∀ q ∈ rdc, q ∈ r.rds) : Env C (fun k => N k ∨ ∃ q ∈ rdc, ∃ L, ι q.1 = some L ∧ L.ph = false ∧ k = L.blk) w := by
 refine ⟨?_, fun g blk hg => ?_⟩
 ·rintro k (hk | ⟨q, hq, L, hL, hph, rfl⟩)
  ·exact hpre.env.1 k hk
  ·obtain ⟨L', h1, h2, _⟩ := hpre.rds q (hr q hq)
   rw [hL] at h1; injection h1 with h1; subst h1
   exact h2.lt hph
 ·obtain ⟨h1, ty, esz, body, xs, post, e, hl⟩ := hpre.env.2 g blk hg
  exact ⟨.inl h1, ty, esz, body, xs, post, e, hl.mono (fun _ _ h => h) (fun _ h => .inl h) (fun _ _ => rfl) rfl⟩
theorem flatO_ok {t : TypeId} {kd : IntKind} {f : FuncId} {F : OSpec} (hF : CallOkO C t kd f F) : ContractOk C f (flatO t kd F) := by
 refine ⟨fun args h nx k hk => ?_⟩
 unfold flatO at hk
 split at hk
 ·exact hk.elim
 rename_i as1 rdc hcl
 split at hk
 ·exact hk.elim
 rename_i cs hcs
 split at hk
 ·exact hk.elim
 rename_i p l hv
 obtain ⟨hp, hk⟩ := asking_split hk
 refine ⟨_, ?_, OpR.ok_read rfl, ?_, hk⟩
 ·intro ι N w vs hpre hvals
  have hvals1 := (closeL_ok hcl).2 (N' := fun k => N k ∨ ∃ q ∈ rdc, ∃ L, ι q.1 = some L ∧ L.ph = false ∧ k = L.blk) (fun k hk => .inl hk) (fun q hq => by
   obtain ⟨L, h1, h2, _⟩ := hpre.rds q hq
   exact ⟨L, h1, h2, fun hph => .inr ⟨q, hq, L, h1, hph, rfl⟩⟩) vs hvals
  refine (hF cs p l hv hp _ w vs (env_more hpre fun q hq => hq) (cvArgs_rel hcs hvals1)).mono ?_
  rintro u w' ⟨hb, hu, hl⟩
  obtain ⟨ι', h1, h2⟩ := Post.ofOwn hpre rfl rfl hb hu hl
  exact ⟨ι', N, h1, h2⟩
 ·intro q hq
  exact (closeL_ok (ι := fun _ => none) (w := default) hcl).1 q hq
end
theorem ints_ri {N : Nat → Prop} {w : World} {k : IntKind} {l : List Int} {v : Value} (hN : ∀ k, N k → k < w.heap.size) (h : asVal (CV.ints k l).isAgg ((CV.ints k l).rel N w) v) : RI w k v l ∧ ∀ x ∈ l, okI k x := by
 obtain ⟨⟨A, c, e, hc, h⟩, hl⟩ := h
 injection e with e
 refine ⟨⟨A, c, e, hc, ⟨by simp, fun h0 => ?_⟩⟩, hl⟩
 obtain ⟨ad, e, hb, hr⟩ := h h0
 exact ⟨ad, e, hN _ hb, hr⟩
end Go.Ab
/- Bytes and numbers, plain. -/
namespace Go.Chr
open Go Go.Ab
theorem okI_of {k : IntKind} {lo hi : Int} (hk : k ≠ .i64) (h1 : k.min = lo) (h2 : k.max = hi) {x : Int} : okI k x ↔ lo ≤ x ∧ x ≤ hi := by
 unfold okI IntKind.has
 rw [h1, h2]
 exact ⟨fun h => h hk, fun h _ => h⟩
theorem okI_u8 {x : Int} : okI .u8 x ↔ 0 ≤ x ∧ x < 256 := (okI_of (by decide) (by decide : IntKind.u8.min = 0) (by decide : IntKind.u8.max = 255)).trans (by omega)
theorem okI_u32 {x : Int} : okI .u32 x ↔ 0 ≤ x ∧ x < 4294967296 := (okI_of (by decide) (by decide : IntKind.u32.min = 0) (by decide : IntKind.u32.max = 4294967295)).trans (by omega)
theorem okI_u64 {x : Int} : okI .u64 x ↔ 0 ≤ x ∧ x < 18446744073709551616 := (okI_of (by decide) (by decide : IntKind.u64.min = 0) (by decide : IntKind.u64.max = 18446744073709551615)).trans (by omega)
def leL (x : Nat) : List Int := (List.range 32).map fun i => ((x / 256 ^ i % 256 : Nat) : Int)
def beL (x : Nat) : List Int := (leL x).reverse
def leK (x : Nat) : List Int := (List.range 32).map fun i => IntKind.u8.wrap (Int.fdiv (lb x (i / 8)) (2 ^ (min (8 * (i % 8)) 64)))
theorem lb_byte (x : Nat) {i : Nat} (hi : i < 32) : IntKind.u8.wrap (Int.fdiv (lb x (i / 8)) (2 ^ (min (8 * (i % 8)) 64))) = ((x / 256 ^ i % 256 : Nat) : Int) := by
 rw [Nat.min_eq_left (by omega)]
 have h1 : lb x (i / 8) = ((x / 18446744073709551616 ^ (i / 8) % 18446744073709551616 : Nat) : Int) := by
  unfold lb; rw [Nat.pow_mul]
 rw [h1, Int.fdiv_eq_ediv_of_nonneg _ (by exact_mod_cast Nat.zero_le _)]
 have h2 : IntKind.u8.wrap = fun n => n % 256 := by
  funext n; unfold IntKind.wrap; simp [IntKind.signed, IntKind.bits]
 rw [h2]
 have h3 : (2 : Int) ^ (8 * (i % 8)) = ((256 ^ (i % 8) : Nat) : Int) := by
  rw [show (256 : Nat) = 2 ^ 8 from rfl, ← Nat.pow_mul]; simp
 have h4 : (18446744073709551616 : Nat) ^ (i / 8) * 256 ^ (i % 8) = 256 ^ i := by
  have : (18446744073709551616 : Nat) = 256 ^ 8 := by decide
  rw [this, ← Nat.pow_mul, ← Nat.pow_add]; congr 1; omega
 have h5 : (18446744073709551616 : Nat) = 256 ^ (i % 8) * 256 ^ (8 - i % 8) := by
  rw [← Nat.pow_add, show i % 8 + (8 - i % 8) = 8 by omega]
 rw [h3]
 show ((((x / 18446744073709551616 ^ (i / 8) % 18446744073709551616 : Nat) : Int) / ((256 ^ (i % 8) : Nat) : Int)) % ((256 : Nat) : Int)) = _
 rw [← Int.natCast_ediv, ← Int.natCast_emod]
 congr 1
 rw [← h4, ← Nat.div_div_eq_div_mul]
 generalize x / 18446744073709551616 ^ (i / 8) = y
 rw [h5, Nat.mod_mul_right_div_self]
 exact Nat.mod_mod_of_dvd _ ⟨256 ^ (8 - i % 8 - 1), by rw [← Nat.pow_succ']; congr 1; omega⟩
theorem leK_eq (x : Nat) : leK x = leL x := List.map_congr_left fun i hi => lb_byte x (List.mem_range.1 hi)
theorem beL_len (x : Nat) : (beL x).length = 32 := by simp [beL, leL]
theorem leL_ok (x : Nat) : ∀ b ∈ leL x, 0 ≤ b ∧ b < 256 := by
 intro b hb
 obtain ⟨i, _, rfl⟩ := List.mem_map.1 hb
 omega
end Go.Chr
namespace Go.Chr
open Go Go.Ab
theorem wi {x : Int} (h : -9223372036854775808 ≤ x ∧ x < 9223372036854775808) : IntKind.i64.wrap x = x := by
 have e : (2 : Int) ^ 64 = 18446744073709551616 := by decide
 have e' : (2 : Int) ^ (64 - 1) = 9223372036854775808 := by decide
 simp only [IntKind.wrap, IntKind.bits, IntKind.signed, e, e', Bool.true_and, decide_eq_true_eq, ge_iff_le]
 split <;> omega
theorem wu64 {x : Int} (h : 0 ≤ x ∧ x < 18446744073709551616) : IntKind.u64.wrap x = x := by
 have e : (2 : Int) ^ 64 = 18446744073709551616 := by decide
 simp only [IntKind.wrap, IntKind.bits, IntKind.signed, e, Bool.false_and]
 simp; omega
theorem wu32 {x : Int} (h : 0 ≤ x ∧ x < 4294967296) : IntKind.u32.wrap x = x := by
 have e : (2 : Int) ^ 32 = 4294967296 := by decide
 simp only [IntKind.wrap, IntKind.bits, IntKind.signed, e, Bool.false_and]
 simp; omega
theorem wu8_mod (x : Int) : IntKind.u8.wrap x = x % 256 := by
 have e : (2 : Int) ^ 8 = 256 := by decide
 simp only [IntKind.wrap, IntKind.bits, IntKind.signed, e, Bool.false_and]
 simp
theorem wu32_mod (x : Int) : IntKind.u32.wrap x = x % 4294967296 := by
 have e : (2 : Int) ^ 32 = 4294967296 := by decide
 simp only [IntKind.wrap, IntKind.bits, IntKind.signed, e, Bool.false_and]
 simp
theorem wu64_mod (x : Int) : IntKind.u64.wrap x = x % 18446744073709551616 := by
 have e : (2 : Int) ^ 64 = 18446744073709551616 := by decide
 simp only [IntKind.wrap, IntKind.bits, IntKind.signed, e, Bool.false_and]
 simp
end Go.Chr
/- SHA-256, plain. -/
namespace Go.Chr
open Go Go.Ab
def rotl32 (x n : Int) : Int :=
 ior .u32 (ishl .u32 x (iand .u64 (IntKind.u64.wrap n) 31)) (ishr .u32 x (IntKind.u64.wrap (32 - iand .u64 (IntKind.u64.wrap n) 31)))
def rotr32 (x n : Int) : Int := rotl32 x (IntKind.i64.wrap (0 - n))
def add32 (x y : Int) : Int := IntKind.u32.wrap (x + y)
def word32 (l : List Int) : Int :=
 ior .u32 (ior .u32 (ior .u32 (ishl .u32 (IntKind.u32.wrap (l.getD 0 0)) 24) (ishl .u32 (IntKind.u32.wrap (l.getD 1 0)) 16)) (ishl .u32 (IntKind.u32.wrap (l.getD 2 0)) 8)) (IntKind.u32.wrap (l.getD 3 0))
def newW (ws : List Int) (t : Nat) : Int :=
 let x := ws.getD (t - 15) 0
 let y := ws.getD (t - 2) 0
 add32 (add32 (add32 (ixor .u32 (ixor .u32 (rotr32 y 17) (rotr32 y 19)) (ishr .u32 y 10)) (ws.getD (t - 7) 0)) (ixor .u32 (ixor .u32 (rotr32 x 7) (rotr32 x 18)) (ishr .u32 x 3))) (ws.getD (t - 16) 0)
def ws0 (l : List Int) : Nat → List Int
 | 0 => List.replicate 64 0
 | n + 1 => (ws0 l n).set n (word32 (l.drop (4 * n)))
def wsN (l : List Int) : Nat → List Int
 | 0 => ws0 l 16
 | n + 1 => (wsN l n).set (16 + n) (newW (wsN l n) (16 + n))
def rnd32 (ks ws : List Int) (t : Nat) (s : List Int) : List Int :=
 let a := s.getD 0 0
 let b := s.getD 1 0
 let c := s.getD 2 0
 let d := s.getD 3 0
 let e := s.getD 4 0
 let f := s.getD 5 0
 let g := s.getD 6 0
 let h := s.getD 7 0
 let t1 := add32 (add32 (add32 (add32 h (ixor .u32 (ixor .u32 (rotr32 e 6) (rotr32 e 11)) (rotr32 e 25))) (ixor .u32 (iand .u32 e f) (iand .u32 (inot .u32 e) g))) (ks.getD t 0)) (ws.getD t 0)
 let t2 := add32 (ixor .u32 (ixor .u32 (rotr32 a 2) (rotr32 a 13)) (rotr32 a 22)) (ixor .u32 (ixor .u32 (iand .u32 a b) (iand .u32 a c)) (iand .u32 b c))
 [add32 t1 t2, a, b, c, add32 d t1, e, f, g]
def rN32 (ks ws s : List Int) : Nat → List Int
 | 0 => s
 | n + 1 => rnd32 ks ws n (rN32 ks ws s n)
def add8 (s v : List Int) : List Int := [add32 (s.getD 0 0) (v.getD 0 0), add32 (s.getD 1 0) (v.getD 1 0), add32 (s.getD 2 0) (v.getD 2 0), add32 (s.getD 3 0) (v.getD 3 0), add32 (s.getD 4 0) (v.getD 4 0), add32 (s.getD 5 0) (v.getD 5 0), add32 (s.getD 6 0) (v.getD 6 0), add32 (s.getD 7 0) (v.getD 7 0)]
def shaTake (ks s l : List Int) : List Int := add8 s (rN32 ks (wsN l 48) s 64)
theorem ws0_len (l : List Int) : ∀ n, (ws0 l n).length = 64
 | 0 => by simp [ws0]
 | n + 1 => by simp [ws0, ws0_len l n]
end Go.Chr
namespace Go.Chr
open Go Go.Ab
def shaRun (ks s m : List Int) : Nat → List Int
 | 0 => s
 | k + 1 => shaTake ks (shaRun ks s m k) ((m.drop (64 * k)).take 64)
def orFirst (h s : List Int) (n : Int) : List Int := bif n == 0 then h else s
end Go.Chr
namespace Go.Chr
open Go Go.Ab
def padZ (n : Nat) : Nat := (119 - n % 64) % 64
def len8 (n : Int) : List Int := (List.range 8).map fun (i : Nat) => IntKind.u8.wrap (ishr .u64 (IntKind.u64.wrap (8 * n)) ((56 : Int) - 8 * (i : Int)))
def shaPad (r : List Int) (n : Int) : List Int := r ++ [128] ++ List.replicate (padZ r.length) 0 ++ len8 n
def bytes4 (w : Int) : List Int := [IntKind.u8.wrap (ishr .u32 w 24), IntKind.u8.wrap (ishr .u32 w 16), IntKind.u8.wrap (ishr .u32 w 8), IntKind.u8.wrap w]
def shaOut (S : List Int) : List Int := (List.range 8).flatMap fun i => bytes4 (S.getD i 0)
def shaEnd (ks S r : List Int) (n : Int) : List Int := shaOut (shaRun ks S (shaPad r n) ((shaPad r n).length / 64))
theorem len8_len (n : Int) : (len8 n).length = 8 := by simp [len8]
theorem shaPad_len (r : List Int) (n : Int) : (shaPad r n).length % 64 = 0 := by
 unfold shaPad padZ
 simp only [List.length_append, List.length_replicate, len8_len, List.length_cons, List.length_nil]
 omega
end Go.Chr
namespace Go.Chr
open Go Go.Ab
theorem shaRun_prefix (ks s m l : List Int) : ∀ k, 64 * k ≤ m.length → shaRun ks s (m ++ l) k = shaRun ks s m k
 | 0, _ => rfl
 | k + 1, h => by
  unfold shaRun
  rw [shaRun_prefix ks s m l k (by omega), List.drop_append_of_le_length (by omega), List.take_append_of_le_length (by simp; omega)]
theorem shaRun_add (ks s m : List Int) (a : Nat) : ∀ b, shaRun ks s m (a + b) = shaRun ks (shaRun ks s m a) (m.drop (64 * a)) b
 | 0 => rfl
 | b + 1 => by
  show shaTake ks (shaRun ks s m (a + b)) ((m.drop (64 * (a + b))).take 64) = _
  rw [shaRun_add ks s m a b]
  show _ = shaTake ks _ (((m.drop (64 * a)).drop (64 * b)).take 64)
  rw [List.drop_drop, Nat.mul_add]
def shaRest (m : List Int) : List Int := m.drop (64 * (m.length / 64))
def shaSt (ks h m : List Int) : List Int := shaRun ks h m (m.length / 64)
def shaF (ks h m : List Int) : List Int := shaEnd ks (shaSt ks h m) (shaRest m) m.length
theorem shaRest_len (m : List Int) : (shaRest m).length = m.length - 64 * (m.length / 64) := by simp [shaRest]
theorem sha_more (ks h m l : List Int) : shaRun ks (shaSt ks h m) (shaRest m ++ l) ((shaRest m ++ l).length / 64) = shaSt ks h (m ++ l) ∧ (shaRest m ++ l).drop (64 * ((shaRest m ++ l).length / 64)) = shaRest (m ++ l) ∧
  (shaRest m ++ l).length - 64 * ((shaRest m ++ l).length / 64) = (shaRest (m ++ l)).length := by
 have hl : (shaRest m ++ l).length = m.length - 64 * (m.length / 64) + l.length := by rw [List.length_append, shaRest_len]
 have hq : (m ++ l).length / 64 = m.length / 64 + (shaRest m ++ l).length / 64 := by rw [hl, List.length_append]; omega
 have hd : (m ++ l).drop (64 * (m.length / 64)) = shaRest m ++ l := by
  unfold shaRest
  rw [List.drop_append_of_le_length (by omega)]
 have h2 : (shaRest m ++ l).drop (64 * ((shaRest m ++ l).length / 64)) = shaRest (m ++ l) := by
  show _ = (m ++ l).drop (64 * ((m ++ l).length / 64))
  rw [hq, Nat.mul_add, ← List.drop_drop, hd]
 refine ⟨?_, h2, ?_⟩
 ·show _ = shaRun ks h (m ++ l) ((m ++ l).length / 64)
  rw [hq, shaRun_add, hd, shaRun_prefix ks h m l _ (by omega)]
  rfl
 ·rw [← h2, List.length_drop]
theorem orFirst_st (ks h m s : List Int) (hs : m ≠ [] → s = shaSt ks h m) : orFirst h s (m.length : Int) = shaSt ks h m := by
 unfold orFirst
 cases m with
 | nil => rfl
 | cons x m =>
  have : ((((x :: m).length : Nat) : Int) == 0) = false := by simp; omega
  rw [this]; exact hs (by simp)
end Go.Chr
/- HMAC, plain. -/
namespace Go.Chr
open Go Go.Ab
def keyF (ks h key : List Int) : List Int := bif decide ((key.length : Int) > 64) then shaF ks h key else key
def xorN (c : Int) (l : List Int) : Nat → List Int
 | 0 => l
 | i + 1 => (xorN c l i).set i (ixor .u8 ((xorN c l i).getD i 0) c)
def key64 (ks h key : List Int) : List Int := copyL 0 64 (List.replicate 64 0) (keyF ks h key)
def macIn (ks h key : List Int) : List Int := xorN 54 (key64 ks h key) 64
def macOut (ks h key : List Int) : List Int := xorN 92 (key64 ks h key) 64
def macF (ks h key m : List Int) : List Int := shaF ks h (macOut ks h key ++ shaF ks h (macIn ks h key ++ m))
theorem xorN_len (c : Int) (l : List Int) : ∀ i, (xorN c l i).length = l.length
 | 0 => rfl
 | i + 1 => by simp [xorN, xorN_len c l i]
theorem shaOut_len (S : List Int) : (shaOut S).length = 32 := by
 show ((List.range 8).flatMap fun i => bytes4 (S.getD i 0)).length = 32
 rw [List.length_flatMap]
 rfl
theorem shaF_len (ks h m : List Int) : (shaF ks h m).length = 32 := shaOut_len _
theorem key64_len (ks h key : List Int) : (key64 ks h key).length = 64 := by
 unfold key64 copyL
 simp only [List.length_append, List.length_take, List.length_drop, List.length_replicate, List.take_zero, List.length_nil]
 omega
theorem macIn_len (ks h key : List Int) : (macIn ks h key).length = 64 := (xorN_len _ _ _).trans (key64_len ks h key)
theorem macOut_len (ks h key : List Int) : (macOut ks h key).length = 64 := (xorN_len _ _ _).trans (key64_len ks h key)
theorem macF_len (ks h key m : List Int) : (macF ks h key m).length = 32 := shaF_len ks h _
def turnK (ks h k v : List Int) (c : Int) (more : List Int) : List Int := macF ks h k (v ++ (c :: more))
def turnV (ks h k v : List Int) (c : Int) (more : List Int) : List Int := macF ks h (turnK ks h k v c more) v
end Go.Chr
/- SHA-256, as the reference puts it, plain. -/
namespace Go.Chr
open Go Go.Ab
set_option maxRecDepth 100000
def bv (x : Int) : BitVec 32 := BitVec.ofInt 32 x
theorem bv_lt (b : BitVec 32) : IntKind.u32.wrap (b.toNat : Int) = b.toNat := by
 rw [wu32]; have := b.isLt; omega
theorem iand_bv (x y : Int) : iand .u32 x y = ((bv x &&& bv y).toNat : Int) := bv_lt _
theorem ior_bv (x y : Int) : ior .u32 x y = ((bv x ||| bv y).toNat : Int) := bv_lt _
theorem ixor_bv (x y : Int) : ixor .u32 x y = ((bv x ^^^ bv y).toNat : Int) := bv_lt _
theorem bv_toNat (b : BitVec 32) : bv (b.toNat : Int) = b := by
 unfold bv; rw [BitVec.ofInt_natCast, BitVec.ofNat_toNat]; simp
theorem inot_bv (x : Int) : inot .u32 x = ((~~~ (bv x)).toNat : Int) := by
 have e : BitVec.ofInt 32 4294967295 = BitVec.allOnes 32 := by decide
 have h : inot .u32 x = IntKind.u32.wrap ((BitVec.ofInt 32 4294967295 ^^^ bv x).toNat : Int) := rfl
 rw [h, bv_lt, e, BitVec.allOnes_xor]
theorem bv_wrap (x : Int) : bv (IntKind.u32.wrap x) = bv x := by
 apply BitVec.eq_of_toNat_eq
 unfold bv
 rw [wu32_mod, BitVec.toNat_ofInt, BitVec.toNat_ofInt]
 congr 1
 show x % 4294967296 % 4294967296 = x % 4294967296
 omega
theorem bv_sub (x : Int) : bv (IntKind.u32.wrap (4294967295 - x)) = ~~~ (bv x) := by
 rw [bv_wrap]
 apply BitVec.eq_of_toNat_eq
 unfold bv
 rw [BitVec.toNat_not, BitVec.toNat_ofInt, BitVec.toNat_ofInt]
 show ((4294967295 - x) % 4294967296).toNat = 4294967296 - 1 - (x % 4294967296).toNat
 omega
theorem ior_comm (x y : Int) : ior .u32 x y = ior .u32 y x := by rw [ior_bv, ior_bv, BitVec.or_comm]
theorem ch_eq (e f g : Int) : ior .u32 (iand .u32 e f) (iand .u32 (IntKind.u32.wrap (4294967295 - e)) g) = ixor .u32 (iand .u32 e f) (iand .u32 (inot .u32 e) g) := by
 rw [ior_bv, ixor_bv, iand_bv, iand_bv, iand_bv, bv_sub, inot_bv, bv_toNat, bv_toNat, bv_toNat, bv_toNat]
 congr 2
 apply BitVec.eq_of_getLsbD_eq
 intro i hi
 simp only [BitVec.getLsbD_or, BitVec.getLsbD_xor, BitVec.getLsbD_and, BitVec.getLsbD_not, hi]
 cases (bv e).getLsbD i <;> cases (bv f).getLsbD i <;> cases (bv g).getLsbD i <;> rfl
theorem maj_eq (a b c : Int) : ior .u32 (ior .u32 (iand .u32 a b) (iand .u32 a c)) (iand .u32 b c) = ixor .u32 (ixor .u32 (iand .u32 a b) (iand .u32 a c)) (iand .u32 b c) := by
 simp only [ior_bv, ixor_bv, iand_bv, bv_toNat]
 congr 2
 apply BitVec.eq_of_getLsbD_eq
 intro i hi
 simp only [BitVec.getLsbD_or, BitVec.getLsbD_xor, BitVec.getLsbD_and]
 cases (bv a).getLsbD i <;> cases (bv b).getLsbD i <;> cases (bv c).getLsbD i <;> rfl
def turn32 (x n : Int) : Int := ior .u32 (ishr .u32 x n) (ishl .u32 x (IntKind.u32.wrap (32 - n)))
theorem rot_of {x n c d : Int} (h1 : iand .u64 (IntKind.u64.wrap (IntKind.i64.wrap (0 - n))) 31 = c) (h2 : IntKind.u64.wrap (32 - c) = n) (h3 : IntKind.u32.wrap (32 - n) = c) : turn32 x n = rotr32 x n := by
 unfold turn32 rotr32 rotl32
 rw [h1, h2, h3, ior_comm]
theorem turn_2 (x : Int) : turn32 x 2 = rotr32 x 2 := rot_of (c := 30) (d := 0) (by decide) (by decide) (by decide)
theorem turn_6 (x : Int) : turn32 x 6 = rotr32 x 6 := rot_of (c := 26) (d := 0) (by decide) (by decide) (by decide)
theorem turn_7 (x : Int) : turn32 x 7 = rotr32 x 7 := rot_of (c := 25) (d := 0) (by decide) (by decide) (by decide)
theorem turn_11 (x : Int) : turn32 x 11 = rotr32 x 11 := rot_of (c := 21) (d := 0) (by decide) (by decide) (by decide)
theorem turn_13 (x : Int) : turn32 x 13 = rotr32 x 13 := rot_of (c := 19) (d := 0) (by decide) (by decide) (by decide)
theorem turn_17 (x : Int) : turn32 x 17 = rotr32 x 17 := rot_of (c := 15) (d := 0) (by decide) (by decide) (by decide)
theorem turn_18 (x : Int) : turn32 x 18 = rotr32 x 18 := rot_of (c := 14) (d := 0) (by decide) (by decide) (by decide)
theorem turn_19 (x : Int) : turn32 x 19 = rotr32 x 19 := rot_of (c := 13) (d := 0) (by decide) (by decide) (by decide)
theorem turn_22 (x : Int) : turn32 x 22 = rotr32 x 22 := rot_of (c := 10) (d := 0) (by decide) (by decide) (by decide)
theorem turn_25 (x : Int) : turn32 x 25 = rotr32 x 25 := rot_of (c := 7) (d := 0) (by decide) (by decide) (by decide)
theorem div_shr {x : Int} (h : 0 ≤ x) (n : Nat) (hn : n ≤ 32) : Int.tdiv x (2 ^ n : Nat) = ishr .u32 x (n : Int) := by
 unfold ishr
 have e : min ((n : Int)).toNat IntKind.u32.bits = n := Nat.min_eq_left hn
 rw [e, Int.fdiv_eq_ediv_of_nonneg _ (by exact_mod_cast Nat.zero_le _), Int.tdiv_eq_ediv_of_nonneg h]
 norm_cast
theorem sh_val {x : Nat} (hx : x < 256) {k : Nat} (hk : k ≤ 24) : ishl .u32 (IntKind.u32.wrap (x : Int)) (k : Int) = ((x * 2 ^ k : Nat) : Int) := by
 rw [wu32 (by omega)]
 unfold ishl
 have e : min ((k : Int)).toNat IntKind.u32.bits = k := Nat.min_eq_left (by show k ≤ 32; omega)
 have h2 : x * 2 ^ k < 4294967296 := by
  have h1 : (2 : Nat) ^ k ≤ 2 ^ 24 := Nat.pow_le_pow_right (by omega) hk
  have : x * 2 ^ k ≤ 255 * 2 ^ 24 := Nat.mul_le_mul (by omega) h1
  omega
 have h3 : ((x * 2 ^ k : Nat) : Int) = (x : Int) * 2 ^ k := by rw [Int.natCast_mul, Int.natCast_pow]; rfl
 rw [e, ← h3, wu32]
 omega
theorem or_val {x y : Nat} (hx : x < 4294967296) (hy : y < 4294967296) : ior .u32 (x : Int) (y : Int) = ((x ||| y : Nat) : Int) := by
 have e (z : Nat) (h : z < 4294967296) : (bv (z : Int)).toNat = z := by
  unfold bv
  rw [BitVec.toNat_ofInt]
  show ((z : Int) % 4294967296).toNat = z
  omega
 rw [ior_bv, BitVec.toNat_or, e x hx, e y hy]
theorem quo_shr {x : Int} (h : 0 ≤ x ∧ x < 4294967296) (n : Nat) (hn : n ≤ 32) : IntKind.u32.wrap (Int.tdiv x (2 ^ n : Nat)) = ishr .u32 x (n : Int) := by
 rw [← div_shr h.1 n hn]
 have e := Int.tdiv_eq_ediv_of_nonneg (b := ((2 ^ n : Nat) : Int)) h.1
 have h0 : 0 ≤ x / ((2 ^ n : Nat) : Int) := Int.ediv_nonneg h.1 (Int.natCast_nonneg _)
 have h1 : x / ((2 ^ n : Nat) : Int) ≤ x := Int.ediv_le_self _ h.1
 exact wu32 (by rw [e]; omega)
theorem quo_8 {x : Int} (h : 0 ≤ x ∧ x < 4294967296) : IntKind.u32.wrap (Int.tdiv x 8) = ishr .u32 x 3 := quo_shr h 3 (by omega)
theorem quo_1024 {x : Int} (h : 0 ≤ x ∧ x < 4294967296) : IntKind.u32.wrap (Int.tdiv x 1024) = ishr .u32 x 10 := quo_shr h 10 (by omega)
theorem u32_at {l : List Int} (h : ∀ x ∈ l, okI .u32 x) (i : Nat) : 0 ≤ l.getD i 0 ∧ l.getD i 0 < 4294967296 := by
 rw [List.getD_eq_getElem?_getD]
 cases e : l[i]? with
 | none => exact ⟨Int.le_refl _, by decide⟩
 | some x => exact okI_u32.1 (h x (List.mem_of_getElem? e))
theorem u8_at {l : List Int} (h : ∀ x ∈ l, okI .u8 x) (i : Nat) : 0 ≤ l.getD i 0 ∧ l.getD i 0 < 256 := by
 rw [List.getD_eq_getElem?_getD]
 cases e : l[i]? with
 | none => exact ⟨Int.le_refl _, by decide⟩
 | some x => exact okI_u8.1 (h x (List.mem_of_getElem? e))
theorem list8 {l : List Int} (h : l.length = 8) : ∃ a0 a1 a2 a3 a4 a5 a6 a7, l = [a0, a1, a2, a3, a4, a5, a6, a7] := by
 match l, h with
 | [a0, a1, a2, a3, a4, a5, a6, a7], _ => exact ⟨_, _, _, _, _, _, _, _, rfl⟩
theorem getD_drop (l : List Int) (n i : Nat) : (l.drop n).getD i 0 = l.getD (n + i) 0 := by
 rw [List.getD_eq_getElem?_getD, List.getD_eq_getElem?_getD, List.getElem?_drop]
def pwd (l : List Int) (t : Nat) : Nat → Int
 | 0 => 0
 | i + 1 => IntKind.u32.wrap (IntKind.u32.wrap (pwd l t i * 256) + IntKind.u32.wrap (l.getD (4 * t + i) 0))
theorem ws0_at (l : List Int) : ∀ n t, n ≤ t → t < 64 → (ws0 l n).getD t 0 = 0
 | 0, t, _, h => by unfold ws0; rw [List.getD_eq_getElem?_getD, List.getElem?_replicate]; simp [h]
 | n + 1, t, h1, h2 => by
  unfold ws0
  rw [List.getD_eq_getElem?_getD, List.getElem?_set_ne (by omega), ← List.getD_eq_getElem?_getD, ws0_at l n t (by omega) h2]
theorem set_same {l : List Int} {t : Nat} {x : Int} (h : t < l.length) (e : l.getD t 0 = x) : l.set t x = l := by
 apply List.ext_getElem?
 intro i
 by_cases hi : t = i
 ·subst hi
  rw [List.getD_eq_getElem?_getD, List.getElem?_eq_getElem h] at e
  rw [List.getElem?_set_self h, List.getElem?_eq_getElem h, ← e]; rfl
 ·rw [List.getElem?_set_ne hi]
theorem getD_set {l : List Int} {t : Nat} {x : Int} (h : t < l.length) : (l.set t x).getD t 0 = x := by
 rw [List.getD_eq_getElem?_getD, List.getElem?_set_self h]; rfl
theorem or_add {a b k : Nat} (h : b < 2 ^ k) : a * 2 ^ k ||| b = a * 2 ^ k + b := by
 rw [Nat.mul_comm]; exact (Nat.two_pow_add_eq_or_of_lt h a).symm
theorem or_24 {a b : Nat} (h : b < 256) : a * 2 ^ 24 ||| b * 2 ^ 16 = (a * 256 + b) * 2 ^ 16 := by
 have h1 : b * 2 ^ 16 < 2 ^ 24 := by omega
 rw [or_add h1]; omega
theorem or_16 {a b : Nat} (h : b < 256) : a * 2 ^ 16 ||| b * 2 ^ 8 = (a * 256 + b) * 2 ^ 8 := by
 have h1 : b * 2 ^ 8 < 2 ^ 16 := by omega
 rw [or_add h1]; omega
theorem or_8 {a b : Nat} (h : b < 256) : a * 2 ^ 8 ||| b = a * 256 + b := by
 have h1 : b < 2 ^ 8 := by omega
 rw [or_add h1]
theorem word_nat {a b c d : Nat} (ha : a < 256) (hb : b < 256) (hc : c < 256) (hd : d < 256) :
  ior .u32 (ior .u32 (ior .u32 (ishl .u32 (IntKind.u32.wrap (a : Int)) ((24 : Nat) : Int)) (ishl .u32 (IntKind.u32.wrap (b : Int)) ((16 : Nat) : Int))) (ishl .u32 (IntKind.u32.wrap (c : Int)) ((8 : Nat) : Int))) (IntKind.u32.wrap (d : Int)) = ((((a * 256 + b) * 256 + c) * 256 + d : Nat) : Int) := by
 have q1 : a * 2 ^ 24 < 4294967296 := Nat.lt_of_le_of_lt (Nat.mul_le_mul_right _ (show a ≤ 255 by omega)) (by decide)
 have q2 : b * 2 ^ 16 < 4294967296 := Nat.lt_of_le_of_lt (Nat.mul_le_mul_right _ (show b ≤ 255 by omega)) (by decide)
 have q3 : (a * 256 + b) * 2 ^ 16 < 4294967296 := Nat.lt_of_le_of_lt (Nat.mul_le_mul_right _ (show a * 256 + b ≤ 65535 by omega)) (by decide)
 have q4 : c * 2 ^ 8 < 4294967296 := Nat.lt_of_le_of_lt (Nat.mul_le_mul_right _ (show c ≤ 255 by omega)) (by decide)
 have q5 : ((a * 256 + b) * 256 + c) * 2 ^ 8 < 4294967296 := Nat.lt_of_le_of_lt (Nat.mul_le_mul_right _ (show (a * 256 + b) * 256 + c ≤ 16777215 by omega)) (by decide)
 have q6 : d < 4294967296 := by omega
 have q7 : (0 : Int) ≤ (d : Int) ∧ (d : Int) < 4294967296 := by omega
 rw [sh_val ha (by decide), sh_val hb (by decide), sh_val hc (by decide), wu32 q7, or_val q1 q2, or_24 hb, or_val q3 q4, or_16 hc, or_val q5 q6, or_8 hd]
theorem word_sum {a b c d : Int} (ha : 0 ≤ a ∧ a < 256) (hb : 0 ≤ b ∧ b < 256) (hc : 0 ≤ c ∧ c < 256) (hd : 0 ≤ d ∧ d < 256) :
  ior .u32 (ior .u32 (ior .u32 (ishl .u32 (IntKind.u32.wrap a) 24) (ishl .u32 (IntKind.u32.wrap b) 16)) (ishl .u32 (IntKind.u32.wrap c) 8)) (IntKind.u32.wrap d) = ((a * 256 + b) * 256 + c) * 256 + d := by
 obtain ⟨a, rfl⟩ : ∃ n : Nat, a = n := ⟨a.toNat, by omega⟩
 obtain ⟨b, rfl⟩ : ∃ n : Nat, b = n := ⟨b.toNat, by omega⟩
 obtain ⟨c, rfl⟩ : ∃ n : Nat, c = n := ⟨c.toNat, by omega⟩
 obtain ⟨d, rfl⟩ : ∃ n : Nat, d = n := ⟨d.toNat, by omega⟩
 refine (word_nat (a := a) (b := b) (c := c) (d := d) (by omega) (by omega) (by omega) (by omega)).trans ?_
 omega
theorem pwd_word {l : List Int} (h : ∀ x ∈ l, okI .u8 x) (t : Nat) : pwd l t 4 = word32 (l.drop (4 * t)) := by
 unfold word32
 simp only [getD_drop, Nat.add_zero]
 have h0 := u8_at h (4 * t)
 have h1 := u8_at h (4 * t + 1)
 have h2 := u8_at h (4 * t + 2)
 have h3 := u8_at h (4 * t + 3)
 rw [word_sum h0 h1 h2 h3]
 simp only [pwd, Nat.add_zero, wu32_mod]
 generalize l.getD (4 * t) 0 = a at h0 ⊢
 generalize l.getD (4 * t + 1) 0 = b at h1 ⊢
 generalize l.getD (4 * t + 2) 0 = c at h2 ⊢
 generalize l.getD (4 * t + 3) 0 = d at h3 ⊢
 omega
theorem shaPad_ge (m : List Int) : m.length ≤ (shaPad m m.length).length := by unfold shaPad; simp
theorem shaF_whole (ks h m : List Int) : shaF ks h m = shaOut (shaRun ks h (shaPad m m.length) ((shaPad m m.length).length / 64)) := by
 have hz : padZ (shaRest m).length = padZ m.length := by
  have h : (m.length - 64 * (m.length / 64)) % 64 = m.length % 64 := by omega
  rw [shaRest_len]; unfold padZ; rw [h]
 have hd : (shaPad m m.length).drop (64 * (m.length / 64)) = shaPad (shaRest m) m.length := by
  unfold shaPad
  rw [hz]
  simp only [List.append_assoc]
  rw [List.drop_append_of_le_length (by omega)]; rfl
 have hl : (shaPad m m.length).length = 64 * (m.length / 64) + (shaPad (shaRest m) m.length).length := by
  rw [← hd, List.length_drop]
  have := shaPad_ge m
  omega
 have hq : (shaPad m m.length).length / 64 = m.length / 64 + (shaPad (shaRest m) m.length).length / 64 := by rw [hl]; omega
 have hp : shaRun ks h (shaPad m m.length) (m.length / 64) = shaSt ks h m := by
  unfold shaPad shaSt
  simp only [List.append_assoc]
  exact shaRun_prefix _ _ _ _ _ (by omega)
 rw [hq, shaRun_add, hd, hp]; rfl
def shN (x : Int) : Nat → Int
 | 0 => x
 | i + 1 => ishl .u64 (shN x i) 8
theorem shN_eq {x : Int} (h : 0 ≤ x ∧ x < 18446744073709551616) : ∀ i, shN x i = x * 256 ^ i % 18446744073709551616
 | 0 => by show x = _; rw [Int.pow_zero, Int.mul_one]; omega
 | i + 1 => by
  show ishl .u64 (shN x i) 8 = _
  rw [shN_eq h i]
  unfold ishl
  rw [wu64_mod]
  show x * 256 ^ i % 18446744073709551616 * 256 % 18446744073709551616 = _
  rw [Int.pow_succ, ← Int.mul_assoc, Int.mul_emod (x * 256 ^ i % _), Int.emod_emod_of_dvd _ (Int.dvd_refl _), ← Int.mul_emod]
theorem shN_byte {n : Nat} (h : n ≤ 1000000000) {i : Nat} (hi : i < 8) : (len8 (n : Int))[i]? = some (IntKind.u8.wrap (ishr .u64 (shN (IntKind.u64.wrap (8 * IntKind.u64.wrap (n : Int))) i) 56)) := by
 have e : (len8 (n : Int))[i]? = some (IntKind.u8.wrap (ishr .u64 (IntKind.u64.wrap (8 * (n : Int))) ((56 : Int) - 8 * (i : Int)))) := by simp [len8, hi]
 have w : IntKind.u64.wrap (8 * (n : Int)) = 8 * (n : Int) := wu64 (by omega)
 rw [e, wu64 (x := (n : Int)) (by omega), w, shN_eq (by omega)]
 congr 1
 rw [wu8_mod, wu8_mod]
 unfold ishr
 have hc : i = 0 ∨ i = 1 ∨ i = 2 ∨ i = 3 ∨ i = 4 ∨ i = 5 ∨ i = 6 ∨ i = 7 := by omega
 rcases hc with rfl | rfl | rfl | rfl | rfl | rfl | rfl | rfl
 ·show Int.fdiv (8 * (n : Int)) (2 ^ 56) % 256 = Int.fdiv (8 * (n : Int) * 256 ^ 0 % 18446744073709551616) (2 ^ 56) % 256
  rw [Int.fdiv_eq_ediv_of_nonneg _ (by decide), Int.fdiv_eq_ediv_of_nonneg _ (by decide)]; omega
 ·show Int.fdiv (8 * (n : Int)) (2 ^ 48) % 256 = Int.fdiv (8 * (n : Int) * 256 ^ 1 % 18446744073709551616) (2 ^ 56) % 256
  rw [Int.fdiv_eq_ediv_of_nonneg _ (by decide), Int.fdiv_eq_ediv_of_nonneg _ (by decide)]; omega
 ·show Int.fdiv (8 * (n : Int)) (2 ^ 40) % 256 = Int.fdiv (8 * (n : Int) * 256 ^ 2 % 18446744073709551616) (2 ^ 56) % 256
  rw [Int.fdiv_eq_ediv_of_nonneg _ (by decide), Int.fdiv_eq_ediv_of_nonneg _ (by decide)]; omega
 ·show Int.fdiv (8 * (n : Int)) (2 ^ 32) % 256 = Int.fdiv (8 * (n : Int) * 256 ^ 3 % 18446744073709551616) (2 ^ 56) % 256
  rw [Int.fdiv_eq_ediv_of_nonneg _ (by decide), Int.fdiv_eq_ediv_of_nonneg _ (by decide)]; omega
 ·show Int.fdiv (8 * (n : Int)) (2 ^ 24) % 256 = Int.fdiv (8 * (n : Int) * 256 ^ 4 % 18446744073709551616) (2 ^ 56) % 256
  rw [Int.fdiv_eq_ediv_of_nonneg _ (by decide), Int.fdiv_eq_ediv_of_nonneg _ (by decide)]; omega
 ·show Int.fdiv (8 * (n : Int)) (2 ^ 16) % 256 = Int.fdiv (8 * (n : Int) * 256 ^ 5 % 18446744073709551616) (2 ^ 56) % 256
  rw [Int.fdiv_eq_ediv_of_nonneg _ (by decide), Int.fdiv_eq_ediv_of_nonneg _ (by decide)]; omega
 ·show Int.fdiv (8 * (n : Int)) (2 ^ 8) % 256 = Int.fdiv (8 * (n : Int) * 256 ^ 6 % 18446744073709551616) (2 ^ 56) % 256
  rw [Int.fdiv_eq_ediv_of_nonneg _ (by decide), Int.fdiv_eq_ediv_of_nonneg _ (by decide)]; omega
 ·show Int.fdiv (8 * (n : Int)) (2 ^ 0) % 256 = Int.fdiv (8 * (n : Int) * 256 ^ 7 % 18446744073709551616) (2 ^ 56) % 256
  rw [Int.fdiv_eq_ediv_of_nonneg _ (by decide), Int.fdiv_eq_ediv_of_nonneg _ (by decide)]; omega
theorem fill_set {l : List Int} {n i : Nat} {x : Int} (hl : l.length = n) (hi : i < n) (e : l.getD i 0 = x) : (l.take i ++ List.replicate (n - i) 0).set i x = l.take (i + 1) ++ List.replicate (n - (i + 1)) 0 := by
 have h1 : (l.take i).length = i := by rw [List.length_take]; omega
 have h2 : n - i = (n - (i + 1)) + 1 := by omega
 have h3 : l[i]? = some x := by
  rw [List.getD_eq_getElem?_getD, List.getElem?_eq_getElem (by omega)] at e
  rw [List.getElem?_eq_getElem (by omega)]; exact congrArg some e
 rw [List.set_append_right _ _ (by omega), h1, Nat.sub_self, h2, List.replicate_succ, List.set_cons_zero, List.take_add_one, h3, List.append_assoc]
 rfl
theorem take_snoc {l : List Int} {i : Nat} (hi : i < l.length) : l.take i ++ [l.getD i 0] = l.take (i + 1) := by
 rw [List.take_add_one, List.getElem?_eq_getElem hi, List.getD_eq_getElem?_getD, List.getElem?_eq_getElem hi]; rfl
theorem ishr_0 (k : IntKind) (w : Int) : ishr k w 0 = w := by
 unfold ishr
 have e : min ((0 : Int)).toNat k.bits = 0 := Nat.zero_min _
 rw [e]; exact Int.fdiv_one w
def outR (S : List Int) : List Int := (List.range 32).map fun i => IntKind.u8.wrap (ishr .u32 (S.getD (i / 4) 0) (24 - 8 * ((i % 4 : Nat) : Int)))
theorem outR_eq (S : List Int) : outR S = shaOut S := by
 have h : outR S = (List.range 8).flatMap fun i => [IntKind.u8.wrap (ishr .u32 (S.getD i 0) 24), IntKind.u8.wrap (ishr .u32 (S.getD i 0) 16), IntKind.u8.wrap (ishr .u32 (S.getD i 0) 8), IntKind.u8.wrap (ishr .u32 (S.getD i 0) 0)] := by kernel_rfl
 rw [h]
 simp only [ishr_0]
 rfl
theorem outR_len (S : List Int) : (outR S).length = 32 := by simp [outR]
theorem outR_at (S : List Int) {i : Nat} (hi : i < 32) : (outR S).getD i 0 = IntKind.u8.wrap (ishr .u32 (S.getD (i / 4) 0) (24 - 8 * ((i % 4 : Nat) : Int))) := by
 rw [List.getD_eq_getElem?_getD]
 simp [outR, hi]
theorem getD_set_ne {l : List Int} {t i : Nat} {x : Int} (h : t ≠ i) : (l.set t x).getD i 0 = l.getD i 0 := by
 rw [List.getD_eq_getElem?_getD, List.getD_eq_getElem?_getD, List.getElem?_set_ne h]
theorem xorN_at (c : Int) (l : List Int) : ∀ n i, i < l.length → (xorN c l n).getD i 0 = if i < n then ixor .u8 (l.getD i 0) c else l.getD i 0
 | 0, i, _ => by rw [if_neg (by omega)]; rfl
 | n + 1, i, h => by
  have hl := xorN_len c l n
  unfold xorN
  by_cases hi : n = i
  ·subst hi
   rw [getD_set (by omega), xorN_at c l n n h, if_neg (by omega), if_pos (by omega)]
  ·rw [getD_set_ne hi, xorN_at c l n i h]
   by_cases h2 : i < n
   ·rw [if_pos h2, if_pos (by omega)]
   ·rw [if_neg h2, if_neg (by omega)]
theorem keyF_len (ks h key : List Int) : (keyF ks h key).length ≤ 64 := by
 unfold keyF
 cases e : decide ((key.length : Int) > 64) with
 | true => show (shaF ks h key).length ≤ 64; rw [shaF_len]; omega
 | false => show key.length ≤ 64; simp at e; omega
theorem key64_eq (ks h key : List Int) : key64 ks h key = keyF ks h key ++ List.replicate (64 - (keyF ks h key).length) 0 := by
 have hl := keyF_len ks h key
 unfold key64 copyL
 rw [List.take_zero, List.nil_append, List.take_of_length_le hl, Nat.zero_add, List.drop_replicate]
theorem mac_at (ks h key : List Int) (c : Int) {i : Nat} (hi : i < 64) : (xorN c (key64 ks h key) 64).getD i 0 = ixor .u8 (bif decide ((i : Int) < ((keyF ks h key).length : Int)) then (keyF ks h key).getD i 0 else 0) c := by
 have hl := keyF_len ks h key
 rw [xorN_at c _ 64 i (by rw [key64_len]; exact hi), if_pos hi, key64_eq]
 congr 1
 rw [List.getD_eq_getElem?_getD]
 by_cases h1 : i < (keyF ks h key).length
 ·have e : decide ((i : Int) < ((keyF ks h key).length : Int)) = true := by simp; exact h1
  rw [e, List.getElem?_append_left h1, ← List.getD_eq_getElem?_getD]; rfl
 ·have e : decide ((i : Int) < ((keyF ks h key).length : Int)) = false := by simp; omega
  rw [e, List.getElem?_append_right (by omega), List.getElem?_replicate]
  split <;> rfl
end Go.Chr
/- A loop that is come to in two makes of one slot. -/
namespace Go.Ab
open Go Go.Chr Go.RowKit
def isOwn (st : St) (t : Nat) : Bool := match getK st.sl t with
 | some (.own _ _ _) => true
 | _ => false
def loopE (t : Nat) (L1 L2 : LoopC) : LoopC := fun st k => cond (isOwn st t) (L1 st k) (L2 st k)
theorem loopE_ok {C : Ctx} {X : Snap} {id : Nat} {b : Code} {t : Nat} {L1 L2 : LoopC} (h1 : LOk C X id b L1) (h2 : LOk C X id b L2) : LOk C X id b (loopE t L1 L2) := by
 intro st k h
 unfold loopE at h
 cases e : isOwn st t with
 | true => rw [e] at h; exact h1 st k h
 | false => rw [e] at h; exact h2 st k h
end Go.Ab
/- Primes, by certificates. -/
namespace ChPr
theorem php : ∀ (n : Nat) (f : Nat → Nat), (∀ i, i < n + 1 → f i < n) → ∃ i j, i < j ∧ j < n + 1 ∧ f i = f j := by
 intro n
 induction n with
 | zero => intro f h; exact absurd (h 0 (by omega)) (by omega)
 | succ n ih =>
  intro f h
  by_cases hx : ∃ i, i < n + 1 ∧ f i = f (n + 1)
  ·obtain ⟨i, hi, e⟩ := hx; exact ⟨i, n + 1, hi, by omega, e⟩
  ·have hne : ∀ i, i < n + 1 → f i ≠ f (n + 1) := fun i hi e => hx ⟨i, hi, e⟩
   have hlast := h (n + 1) (by omega)
   obtain ⟨i, j, hij, hj, e⟩ := ih (fun i => if f i < f (n + 1) then f i else f i - 1) (by
    intro i hi
    have := h i (by omega); have := hne i hi
    show (if f i < f (n + 1) then f i else f i - 1) < n
    split <;> omega)
   refine ⟨i, j, hij, by omega, ?_⟩
   have := hne i (by omega); have := hne j (by omega)
   split at e <;> split at e <;> omega
theorem onto (n : Nat) (f : Nat → Nat) (h : ∀ i, i < n → f i < n) (hinj : ∀ i j, i < j → j < n → f i ≠ f j) (a : Nat) (ha : a < n) : ∃ i, i < n ∧ f i = a := by
 apply Classical.byContradiction
 intro hn
 have hne : ∀ i, i < n → f i ≠ a := fun i hi e => hn ⟨i, hi, e⟩
 obtain ⟨m, rfl⟩ : ∃ m, n = m + 1 := ⟨n - 1, by omega⟩
 obtain ⟨i, j, hij, hj, e⟩ := php m (fun i => if f i < a then f i else f i - 1) (by
  intro i hi
  have := h i hi; have := hne i hi
  show (if f i < a then f i else f i - 1) < m
  split <;> omega)
 have := hne i (by omega); have := hne j hj
 refine hinj i j hij hj ?_
 split at e <;> split at e <;> omega
def Pr (p : Nat) : Prop := 2 ≤ p ∧ ∀ a b, p ∣ a * b → p ∣ a ∨ p ∣ b
theorem Pr.cop {q m : Nat} (hq : Pr q) (h : ¬ q ∣ m) : Nat.Coprime m q := by
 have hd := Nat.gcd_dvd_right m q
 obtain ⟨c, hc⟩ := hd
 rcases hq.2 (Nat.gcd m q) c ⟨1, by omega⟩ with h1 | h1
 ·exact (h (Nat.dvd_trans h1 (Nat.gcd_dvd_left m q))).elim
 ·obtain ⟨k, hk⟩ := h1
  have : q * 1 = q * (Nat.gcd m q * k) := by
   rw [Nat.mul_one]
   calc q = Nat.gcd m q * c := hc
    _ = Nat.gcd m q * (q * k) := by rw [← hk]
    _ = q * (Nat.gcd m q * k) := by rw [Nat.mul_left_comm]
  have := Nat.eq_of_mul_eq_mul_left (by have := hq.1; omega) this
  exact Nat.eq_one_of_dvd_one ⟨k, this⟩
def prod : List (Nat × Nat) → Nat
 | [] => 1
 | x :: l => x.1 ^ x.2 * prod l
theorem cop_prod {m : Nat} : ∀ l : List (Nat × Nat), (∀ x ∈ l, Pr x.1) → (∀ x ∈ l, ¬ x.1 ∣ m) → Nat.Coprime m (prod l) := by
 intro l
 induction l with
 | nil => intro _ _; exact Nat.coprime_one_right m
 | cons x l ih =>
  intro hp hn
  exact Nat.Coprime.mul_right (Nat.Coprime.pow_right _ (Pr.cop (hp x (by simp)) (hn x (by simp)))) (ih (fun y hy => hp y (by simp [hy])) (fun y hy => hn y (by simp [hy])))
theorem pow_mod_add {g p a b : Nat} : g ^ (a + b) % p = (g ^ a % p) * (g ^ b % p) % p := by
 rw [Nat.pow_add, Nat.mul_mod]
theorem pow_mul_one {g p a : Nat} (hp : 2 ≤ p) (h : g ^ a % p = 1) (k : Nat) : g ^ (a * k) % p = 1 := by
 induction k with
 | zero => simp; exact Nat.mod_eq_of_lt (by omega)
 | succ k ih => rw [Nat.mul_succ, pow_mod_add, ih, h]; exact Nat.mod_eq_of_lt (by omega)
def pw (p : Nat) : Nat → Nat → Nat → Nat
 | 0, _, _ => 1 % p
 | f + 1, g, e => if e = 0 then 1 % p else
  let h := pw p f (g * g % p) (e / 2)
  if e % 2 = 0 then h else g * h % p
theorem pw_eq (p : Nat) : ∀ f g e, e < 2 ^ f → pw p f g e = g ^ e % p := by
  intro f
  induction f with
  | zero => intro g e h; have : e = 0 := by simpa using h
            subst this; simp [pw]
  | succ f ih =>
    intro g e h
    simp only [pw]
    split
    · subst_vars; simp
    · have he : e / 2 < 2 ^ f := by rw [Nat.pow_succ] at h; omega
      rw [ih _ _ he]
      have h2 : (g * g % p) ^ (e / 2) % p = g ^ (2 * (e / 2)) % p := by
        rw [← Nat.pow_mod, Nat.pow_mul]; congr 2; exact (Nat.pow_two g).symm
      rw [h2]
      split
      · congr 2; omega
      · have e2 : e = 2 * (e / 2) + 1 := by omega
        conv => rhs; rw [e2, Nat.pow_succ, Nat.mul_comm]
        rw [Nat.mul_mod, Nat.mod_mod, ← Nat.mul_mod]
theorem least (P : Nat → Prop) : ∀ n, P n → ∃ m, P m ∧ ∀ k, k < m → ¬ P k := by
 intro n
 induction n using Nat.strongRecOn with
 | _ n ih =>
  intro h
  by_cases hx : ∃ k, k < n ∧ P k
  ·obtain ⟨k, hk, hp⟩ := hx; exact ih k hk hp
  ·exact ⟨n, h, fun k hk hp => hx ⟨k, hk, hp⟩⟩
def good (p g : Nat) (l : List (Nat × Nat)) : Bool :=
 decide (2 ≤ p) && (prod l == p - 1) && (pw p 256 g (p - 1) == 1) && decide (p < 2 ^ 256) && l.all fun x => decide (2 ≤ x.1) && pw p 256 g ((p - 1) / x.1) != 1
theorem order {p g : Nat} {l : List (Nat × Nat)} (h : good p g l = true) (hl : ∀ x ∈ l, Pr x.1) : g ^ (p - 1) % p = 1 ∧ ∀ k, 0 < k → k < p - 1 → g ^ k % p ≠ 1 := by
 simp only [good, Bool.and_eq_true, decide_eq_true_eq, beq_iff_eq, List.all_eq_true, bne_iff_ne] at h
 obtain ⟨⟨⟨⟨hp, hprod⟩, h1⟩, hlt⟩, hq⟩ := h
 rw [pw_eq p 256 g _ (by omega)] at h1
 refine ⟨h1, fun k hk hk2 he => ?_⟩
 obtain ⟨d, ⟨hd0, hd1⟩, hmin⟩ := least (fun k => 0 < k ∧ g ^ k % p = 1) k ⟨hk, he⟩
 have hdk : d ≤ k := by
  rcases Nat.lt_or_ge k d with hlt | hge
  ·exact absurd ⟨hk, he⟩ (hmin k hlt)
  ·exact hge
 -- d divides p - 1
 have hdvd : d ∣ p - 1 := by
  have e := Nat.div_add_mod (p - 1) d
  have hr : g ^ ((p - 1) % d) % p = 1 := by
   have : g ^ (d * ((p - 1) / d) + (p - 1) % d) % p = 1 := by rw [e]; exact h1
   rw [pow_mod_add, pow_mul_one hp hd1, Nat.one_mul, Nat.mod_mod] at this
   exact this
  rcases Nat.eq_zero_or_pos ((p - 1) % d) with h0 | h0
  ·exact Nat.dvd_of_mod_eq_zero h0
  ·exact absurd ⟨h0, hr⟩ (hmin _ (Nat.mod_lt _ hd0))
 obtain ⟨m, hm⟩ := hdvd
 have hm1 : m ≠ 1 := by rintro rfl; omega
 have : ∃ x ∈ l, x.1 ∣ m := by
  apply Classical.byContradiction
  intro hn
  have hc := cop_prod (m := m) l hl fun x hx hd => hn ⟨x, hx, hd⟩
  rw [hprod] at hc
  exact hm1 (Nat.Coprime.eq_one_of_dvd hc ⟨d, by rw [hm, Nat.mul_comm]⟩)
 obtain ⟨x, hx, c, hc⟩ := this
 have hx2 := hq x hx
 refine hx2.2 ?_
 rw [pw_eq p 256 g _ (Nat.lt_of_le_of_lt (Nat.div_le_self _ _) (by omega)), hm, hc, Nat.mul_left_comm, Nat.mul_div_cancel_left _ (by omega)]
 exact pow_mul_one hp hd1 c
theorem powers {p g : Nat} {l : List (Nat × Nat)} (h : good p g l = true) (hl : ∀ x ∈ l, Pr x.1) (a : Nat) (ha : 0 < a) (hap : a < p) : ∃ k, k < p - 1 ∧ g ^ k % p = a := by
 obtain ⟨h1, h2⟩ := order h hl
 have hp : 2 ≤ p := by
  simp only [good, Bool.and_eq_true, decide_eq_true_eq] at h
  exact h.1.1.1.1
 have hpos : ∀ i, i < p - 1 → 0 < g ^ i % p ∧ g ^ i % p < p := by
  intro i hi
  refine ⟨?_, Nat.mod_lt _ (by omega)⟩
  rcases Nat.eq_zero_or_pos (g ^ i % p) with h0 | h0
  ·have e : g ^ (i + (p - 1 - i)) % p = 1 := by rw [show i + (p - 1 - i) = p - 1 by omega]; exact h1
   rw [pow_mod_add, h0, Nat.zero_mul, Nat.zero_mod] at e
   omega
  ·exact h0
 obtain ⟨k, hk, e⟩ := onto (p - 1) (fun i => g ^ i % p - 1) (fun i hi => by have := hpos i hi; omega) (fun i j hij hj e => by
   have hi := hpos i (by omega); have hj' := hpos j hj
   have e' : g ^ i % p = g ^ j % p := by omega
   have e2 : g ^ (i + (p - 1 - i)) % p = g ^ (j + (p - 1 - i)) % p := by rw [pow_mod_add, e', ← pow_mod_add]
   rw [show i + (p - 1 - i) = p - 1 by omega, h1, show j + (p - 1 - i) = (p - 1) * 1 + (j - i) by omega, pow_mod_add, pow_mul_one hp h1, Nat.one_mul, Nat.mod_mod] at e2
   exact h2 (j - i) (by omega) (by omega) e2.symm) (a - 1) (by omega)
 exact ⟨k, hk, by have := hpos k hk; omega⟩
theorem inv_pow {p g : Nat} {l : List (Nat × Nat)} (h : good p g l = true) (hl : ∀ x ∈ l, Pr x.1) (a : Nat) (ha : a % p ≠ 0) : a * a ^ (p - 2) % p = 1 := by
 have hp : 2 ≤ p := by
  simp only [good, Bool.and_eq_true, decide_eq_true_eq] at h
  exact h.1.1.1.1
 obtain ⟨k, hk, e⟩ := powers h hl (a % p) (by omega) (Nat.mod_lt _ (by omega))
 have e2 : a * a ^ (p - 2) % p = a ^ (p - 1) % p := by
  rw [Nat.mul_comm, ← Nat.pow_succ]; congr 2; omega
 rw [e2, Nat.pow_mod, ← e, ← Nat.pow_mod, ← Nat.pow_mul, Nat.mul_comm]
 exact pow_mul_one hp (order h hl).1 k
theorem pr_of {p g : Nat} {l : List (Nat × Nat)} (h : good p g l = true) (hl : ∀ x ∈ l, Pr x.1) : Pr p := by
 have hp : 2 ≤ p := by
  simp only [good, Bool.and_eq_true, decide_eq_true_eq] at h
  exact h.1.1.1.1
 refine ⟨hp, fun a b hab => ?_⟩
 by_cases ha : a % p = 0
 ·exact .inl (Nat.dvd_of_mod_eq_zero ha)
 ·right
  have hi := inv_pow h hl a ha
  have : (a ^ (p - 2) * (a * b)) % p = b % p := by
   rw [← Nat.mul_assoc, Nat.mul_comm (a ^ (p - 2)) a, Nat.mul_mod, hi, Nat.one_mul, Nat.mod_mod]
  rw [Nat.mul_mod, Nat.mod_eq_zero_of_dvd hab, Nat.mul_zero, Nat.zero_mod] at this
  exact Nat.dvd_of_mod_eq_zero this.symm
def tried (p : Nat) : Nat → Nat → Bool
 | 0, _ => false
 | f + 1, d => if p < d * d then true else if p % d = 0 then false else tried p f (d + 1)
theorem tried_div {p : Nat} : ∀ f d, tried p f d = true → (∀ e, 2 ≤ e → e < d → ¬ e ∣ p) → ∀ e, 2 ≤ e → e * e ≤ p → ¬ e ∣ p := by
 intro f
 induction f with
 | zero => intro d h; simp [tried] at h
 | succ f ih =>
  intro d h hd e he hle hdvd
  simp only [tried] at h
  split at h
  ·rename_i hlt
   refine hd e he ?_ hdvd
   rcases Nat.lt_or_ge e d with h1 | h1
   ·exact h1
   ·have := Nat.mul_le_mul h1 h1; omega
  ·split at h
   ·cases h
   ·rename_i hne
    refine ih (d + 1) h ?_ e he hle hdvd
    intro x hx hlt hxd
    rcases Nat.lt_or_ge x d with h1 | h1
    ·exact hd x hx h1 hxd
    ·have : x = d := by omega
     subst this
     exact hne (Nat.mod_eq_zero_of_dvd hxd)
theorem pr_tried {p : Nat} (f : Nat) (h2 : 2 ≤ p) (h : tried p f 2 = true) : Pr p := by
 have hd := tried_div f 2 h (fun e h1 h2 => by omega)
 have only : ∀ c, c ∣ p → c = 1 ∨ c = p := by
  intro c hc
  obtain ⟨k, hk⟩ := hc
  by_cases h1 : c = 1
  ·exact .inl h1
  ·right
   have hc0 : c ≠ 0 := by rintro rfl; omega
   by_cases hk1 : k = 1
   ·subst hk1; omega
   ·have hk0 : k ≠ 0 := by rintro rfl; omega
    exfalso
    rcases Nat.le_total c k with hle | hle
    ·exact hd c (by omega) (by rw [hk]; exact Nat.mul_le_mul_left c hle) ⟨k, hk⟩
    ·exact hd k (by omega) (by rw [hk]; exact Nat.mul_le_mul_right k hle) ⟨c, by rw [hk, Nat.mul_comm]⟩
 refine ⟨h2, fun a b hab => ?_⟩
 rcases only (Nat.gcd p a) (Nat.gcd_dvd_left p a) with h1 | h1
 ·right; exact Nat.Coprime.dvd_of_dvd_mul_left h1 hab
 ·left; rw [← h1]; exact Nat.gcd_dvd_right p a
end ChPr
/- Whole numbers' remainders; polynomials as one number. -/
namespace ChEC
theorem ext_int {M : Nat} {a b : Fin M} (h : (a.val : Int) = b.val) : a = b := Fin.ext (Int.ofNat_inj.1 h)
section
variable {M : Nat} [NeZero M]
def ic (c : Int) : Fin M := Fin.ofNat M (c % (M : Int)).toNat
theorem M_pos : 0 < M := Nat.pos_of_ne_zero (NeZero.ne M)
theorem ic_val (c : Int) : ((ic c : Fin M).val : Int) = c % (M : Int) := by
 have hM := M_pos (M := M)
 have h0 : 0 ≤ c % (M : Int) := Int.emod_nonneg _ (by omega)
 have h1 : c % (M : Int) < M := Int.emod_lt_of_pos _ (by omega)
 show (((c % (M : Int)).toNat % M : Nat) : Int) = _
 rw [Nat.mod_eq_of_lt (by omega)]; omega
theorem ic_add (a b : Int) : (ic (a + b) : Fin M) = ic a + ic b := by
 apply ext_int
 rw [ic_val, Fin.val_add, Int.natCast_emod, Int.natCast_add, ic_val, ic_val, ← Int.add_emod]
theorem ic_mul (a b : Int) : (ic (a * b) : Fin M) = ic a * ic b := by
 apply ext_int
 rw [ic_val, Fin.val_mul, Int.natCast_emod, Int.natCast_mul, ic_val, ic_val, ← Int.mul_emod]
theorem ic_zero : (ic 0 : Fin M) = 0 := by
 apply ext_int; rw [ic_val]; simp
theorem ic_one : (ic 1 : Fin M) = 1 := by
 apply ext_int; rw [ic_val]; show (1 : Int) % (M : Int) = ((1 % M : Nat) : Int); rw [Int.natCast_emod]; rfl
theorem ic_neg (a : Int) : (ic (-a) : Fin M) = -ic a := by
 have h : (ic (-a) : Fin M) + ic a = 0 := by rw [← ic_add, show -a + a = 0 by omega, ic_zero]
 grind
theorem ic_three : (ic 3 : Fin M) = 3 := by
 rw [show (3 : Int) = 1 + 1 + 1 from rfl, ic_add, ic_add, ic_one]; grind
def fpw (x : Fin M) : Nat → Fin M
 | 0 => 1
 | n + 1 => fpw x n * x
theorem fpw_add (x : Fin M) (m n : Nat) : fpw x (m + n) = fpw x m * fpw x n := by
 induction n with
 | zero => simp only [fpw, Nat.add_zero]; grind
 | succ n ih => rw [Nat.add_succ]; simp only [fpw, ih]; grind
end
end ChEC
namespace ChEC
structure Mon where
 a : Nat
 b : Nat
 c : Nat
 d : Nat
def Mon.mul (m n : Mon) : Mon := ⟨m.a + n.a, m.b + n.b, m.c + n.c, m.d + n.d⟩
def Mon.le (m n : Mon) : Prop := m.a ≤ n.a ∧ m.b ≤ n.b ∧ m.c ≤ n.c ∧ m.d ≤ n.d
def Mon.pk (r m : Mon) : Nat := m.a + r.a * (m.b + r.b * (m.c + r.c * m.d))
theorem Mon.pk_mul (r m n : Mon) : r.pk (m.mul n) = r.pk m + r.pk n := by
 simp only [Mon.pk, Mon.mul]; grind
theorem Mon.pk_inj (r m n : Mon) (hm : m.a < r.a ∧ m.b < r.b ∧ m.c < r.c) (hn : n.a < r.a ∧ n.b < r.b ∧ n.c < r.c) (h : r.pk m = r.pk n) : m = n := by
 obtain ⟨a, b, c, d⟩ := m
 obtain ⟨a', b', c', d'⟩ := n
 simp only [Mon.pk] at *
 have key : ∀ {q x y u v : Nat}, x < q → y < q → x + q * u = y + q * v → x = y ∧ u = v := by
  intro q x y u v hx hy h
  have h1 : (x + q * u) % q = x := by rw [Nat.add_mul_mod_self_left]; exact Nat.mod_eq_of_lt hx
  have h2 : (y + q * v) % q = y := by rw [Nat.add_mul_mod_self_left]; exact Nat.mod_eq_of_lt hy
  have e : x = y := by rw [← h1, ← h2, h]
  refine ⟨e, ?_⟩
  have : q * u = q * v := by omega
  exact Nat.eq_of_mul_eq_mul_left (by omega) this
 obtain ⟨rfl, h2⟩ := key hm.1 hn.1 h
 obtain ⟨rfl, h3⟩ := key hm.2.1 hn.2.1 h2
 obtain ⟨rfl, rfl⟩ := key hm.2.2 hn.2.2 h3
 rfl
abbrev LP := List (Mon × Int)
def norm : LP → Nat
 | [] => 0
 | x :: l => x.2.natAbs + norm l
def evZ (g : Mon → Int) : LP → Int
 | [] => 0
 | x :: l => x.2 * g x.1 + evZ g l
section
variable {M : Nat} [NeZero M]
def evF (g : Mon → Fin M) : LP → Fin M
 | [] => 0
 | x :: l => ic x.2 * g x.1 + evF g l
theorem evF_append (g : Mon → Fin M) (l m : LP) : evF g (l ++ m) = evF g l + evF g m := by
 induction l with
 | nil => simp only [evF, List.nil_append]; grind
 | cons x l ih => simp only [evF, List.cons_append, ih]; grind
def one (x : Mon × Int) : LP → LP
 | [] => []
 | y :: l => (x.1.mul y.1, x.2 * y.2) :: one x l
def mulL : LP → LP → LP
 | [], _ => []
 | x :: l, m => one x m ++ mulL l m
theorem evF_one (g : Mon → Fin M) (hg : ∀ m n, g (m.mul n) = g m * g n) (x : Mon × Int) (m : LP) : evF g (one x m) = ic x.2 * g x.1 * evF g m := by
 induction m with
 | nil => simp only [one, evF]; grind
 | cons y m ih => simp only [one, evF, ih, hg, ic_mul]; grind
theorem evF_mulL (g : Mon → Fin M) (hg : ∀ m n, g (m.mul n) = g m * g n) (l m : LP) : evF g (mulL l m) = evF g l * evF g m := by
 induction l with
 | nil => simp only [mulL, evF]; grind
 | cons x l ih => simp only [mulL, evF_append, evF_one g hg, ih, evF]; grind
end
theorem evZ_append (g : Mon → Int) (l m : LP) : evZ g (l ++ m) = evZ g l + evZ g m := by
 induction l with
 | nil => simp [evZ]
 | cons x l ih => simp only [evZ, List.cons_append, ih]; omega
theorem evZ_one (g : Mon → Int) (hg : ∀ m n, g (m.mul n) = g m * g n) (x : Mon × Int) (m : LP) : evZ g (one x m) = x.2 * g x.1 * evZ g m := by
 induction m with
 | nil => simp [one, evZ]
 | cons y m ih => simp only [one, evZ, ih, hg]; grind
theorem evZ_mulL (g : Mon → Int) (hg : ∀ m n, g (m.mul n) = g m * g n) (l m : LP) : evZ g (mulL l m) = evZ g l * evZ g m := by
 induction l with
 | nil => simp [mulL, evZ]
 | cons x l ih => simp only [mulL, evZ_append, evZ_one g hg, ih, evZ]; grind
theorem norm_append (l m : LP) : norm (l ++ m) = norm l + norm m := by
 induction l with
 | nil => simp [norm]
 | cons x l ih => simp only [norm, List.cons_append, ih]; omega
theorem norm_one (x : Mon × Int) (m : LP) : norm (one x m) = x.2.natAbs * norm m := by
 induction m with
 | nil => simp [one, norm]
 | cons y m ih => simp only [one, norm, ih, Int.natAbs_mul]; grind
theorem norm_mulL (l m : LP) : norm (mulL l m) = norm l * norm m := by
 induction l with
 | nil => simp [mulL, norm]
 | cons x l ih => simp only [mulL, norm_append, norm_one, ih, norm]; grind
theorem mem_one (x : Mon × Int) (m : LP) : ∀ z ∈ one x m, ∃ y ∈ m, z.1 = x.1.mul y.1 := by
 induction m with
 | nil => simp [one]
 | cons y m ih =>
  intro z hz
  simp only [one, List.mem_cons] at hz
  rcases hz with rfl | hz
  ·exact ⟨y, by simp, rfl⟩
  ·obtain ⟨w, hw, e⟩ := ih z hz; exact ⟨w, by simp [hw], e⟩
theorem mem_mulL (l m : LP) : ∀ z ∈ mulL l m, ∃ x ∈ l, ∃ y ∈ m, z.1 = x.1.mul y.1 := by
 induction l with
 | nil => simp [mulL]
 | cons x l ih =>
  intro z hz
  simp only [mulL, List.mem_append] at hz
  rcases hz with hz | hz
  ·obtain ⟨y, hy, e⟩ := mem_one x m z hz; exact ⟨x, by simp, y, hy, e⟩
  ·obtain ⟨w, hw, y, hy, e⟩ := ih z hz; exact ⟨w, by simp [hw], y, hy, e⟩
theorem least (f : Mon → Nat) (l : LP) (hl : l ≠ []) : ∃ x ∈ l, ∀ y ∈ l, f x.1 ≤ f y.1 := by
 induction l with
 | nil => exact (hl rfl).elim
 | cons x l ih =>
  by_cases h : l = []
  ·subst h; exact ⟨x, by simp, by simp⟩
  ·obtain ⟨y, hy, hm⟩ := ih h
   by_cases hxy : f x.1 ≤ f y.1
   ·exact ⟨x, by simp, fun z hz => by
     rcases List.mem_cons.1 hz with rfl | hz
     ·exact Nat.le_refl _
     ·exact Nat.le_trans hxy (hm z hz)⟩
   ·exact ⟨y, by simp [hy], fun z hz => by
     rcases List.mem_cons.1 hz with rfl | hz
     ·omega
     ·exact hm z hz⟩
def here (f : Mon → Nat) (k : Nat) : LP → Int
 | [] => 0
 | x :: l => (if f x.1 = k then x.2 else 0) + here f k l
def rest (f : Mon → Nat) (k : Nat) : LP → LP
 | [] => []
 | x :: l => if f x.1 = k then rest f k l else x :: rest f k l
theorem mem_rest (f : Mon → Nat) (k : Nat) (l : LP) : ∀ y ∈ rest f k l, y ∈ l ∧ f y.1 ≠ k := by
 induction l with
 | nil => simp [rest]
 | cons x l ih =>
  intro y hy
  simp only [rest] at hy
  split at hy
  ·have := ih y hy; exact ⟨by simp [this.1], this.2⟩
  ·rcases List.mem_cons.1 hy with rfl | hy
   ·exact ⟨by simp, by assumption⟩
   ·have := ih y hy; exact ⟨by simp [this.1], this.2⟩
theorem len_rest (f : Mon → Nat) (k : Nat) (l : LP) : (rest f k l).length ≤ l.length := by
 induction l with
 | nil => simp [rest]
 | cons x l ih => simp only [rest]; split <;> simp <;> omega
theorem len_rest_lt (f : Mon → Nat) (k : Nat) (l : LP) (x : Mon × Int) (hx : x ∈ l) (h : f x.1 = k) : (rest f k l).length < l.length := by
 induction l with
 | nil => simp at hx
 | cons y l ih =>
  simp only [rest]
  have h2 := len_rest f k l
  split
  ·simp; omega
  ·rcases List.mem_cons.1 hx with rfl | hx
   ·contradiction
   ·have := ih hx; simp; omega
theorem norm_rest (f : Mon → Nat) (k : Nat) (l : LP) : (here f k l).natAbs + norm (rest f k l) ≤ norm l := by
 induction l with
 | nil => simp [here, rest, norm]
 | cons x l ih =>
  simp only [here, rest, norm]
  split
  ·omega
  ·simp only [norm]; omega
theorem evZ_rest (f : Mon → Nat) (B : Int) (k : Nat) (l : LP) : evZ (fun m => B ^ f m) l = here f k l * B ^ k + evZ (fun m => B ^ f m) (rest f k l) := by
 induction l with
 | nil => simp [here, rest, evZ]
 | cons x l ih =>
  simp only [here, rest, evZ, ih]
  split
  ·rename_i h; rw [h]; grind
  ·simp only [evZ]; grind
theorem evF_rest {M : Nat} [NeZero M] (f : Mon → Nat) (g : Mon → Fin M) (k : Nat) (m0 : Mon) (l : LP) (hu : ∀ x ∈ l, f x.1 = k → x.1 = m0) :
  evF g l = ic (here f k l) * g m0 + evF g (rest f k l) := by
 induction l with
 | nil => simp only [here, rest, evF, ic_zero]; grind
 | cons x l ih =>
  have ih := ih fun y hy => hu y (by simp [hy])
  simp only [here, rest, evF, ih, ic_add]
  split
  ·rename_i h
   rw [hu x (by simp) h]; grind
  ·simp only [evF, ic_zero]; grind
theorem dvd_tail (f : Mon → Nat) (W : Nat) (k : Nat) (l : LP) (h : ∀ x ∈ l, k < f x.1) : ∃ q : Int, evZ (fun m => ((2 : Int) ^ W) ^ f m) l = q * ((2 : Int) ^ W) ^ (k + 1) := by
 induction l with
 | nil => exact ⟨0, by simp [evZ]⟩
 | cons x l ih =>
  obtain ⟨q, hq⟩ := ih fun y hy => h y (by simp [hy])
  have hx := h x (by simp)
  refine ⟨x.2 * ((2 : Int) ^ W) ^ (f x.1 - (k + 1)) + q, ?_⟩
  have e : ((2 : Int) ^ W) ^ f x.1 = ((2 : Int) ^ W) ^ (f x.1 - (k + 1)) * ((2 : Int) ^ W) ^ (k + 1) := by
   rw [← Int.pow_add]; congr 1; omega
  simp only [evZ, hq, e]; grind
theorem small_zero (c q : Int) (W : Nat) (hc : c.natAbs < 2 ^ W) (h : c + q * (2 : Int) ^ W = 0) : c = 0 := by
 have h2 : c = (-q) * (2 : Int) ^ W := by grind
 have h3 : c.natAbs = q.natAbs * 2 ^ W := by
  rw [h2, Int.natAbs_mul, Int.natAbs_neg, Int.natAbs_pow]; rfl
 have h4 : q.natAbs = 0 := by
  rcases Nat.eq_zero_or_pos q.natAbs with h | h
  ·exact h
  ·have : 2 ^ W ≤ q.natAbs * 2 ^ W := Nat.le_mul_of_pos_left _ h
   omega
 have : q = 0 := by omega
 rw [h2, this]; simp
theorem kron {M : Nat} [NeZero M] (f : Mon → Nat) (g : Mon → Fin M) (W : Nat) : ∀ (n : Nat) (l : LP), l.length ≤ n → (∀ x ∈ l, ∀ y ∈ l, f x.1 = f y.1 → x.1 = y.1) →
  norm l < 2 ^ W → evZ (fun m => ((2 : Int) ^ W) ^ f m) l = 0 → evF g l = 0 := by
 intro n
 induction n with
 | zero =>
  intro l hl _ _ _
  have : l = [] := List.length_eq_zero_iff.1 (by omega)
  subst this; rfl
 | succ n ih =>
  intro l hl hu hn hz
  by_cases h0 : l = []
  ·subst h0; rfl
  ·obtain ⟨x, hx, hmin⟩ := least f l h0
   have hnr := norm_rest f (f x.1) l
   have hrest : ∀ y ∈ rest f (f x.1) l, f x.1 < f y.1 := by
    intro y hy
    have hy' := mem_rest f _ l y hy
    have := hmin y hy'.1
    have := hy'.2
    omega
   obtain ⟨q, hq⟩ := dvd_tail f W (f x.1) _ hrest
   have hz' := hz
   rw [evZ_rest f _ (f x.1) l, hq] at hz
   have hpow : ((2 : Int) ^ W) ^ (f x.1 + 1) = ((2 : Int) ^ W) * ((2 : Int) ^ W) ^ f x.1 := by rw [Int.pow_succ, Int.mul_comm]
   rw [hpow] at hz
   have hfac : (here f (f x.1) l + q * (2 : Int) ^ W) * ((2 : Int) ^ W) ^ f x.1 = 0 := by rw [← hz]; grind
   have hne : ((2 : Int) ^ W) ^ f x.1 ≠ 0 := by
    rw [← Int.pow_mul]; exact Int.pow_ne_zero (by decide)
   have hc : here f (f x.1) l + q * (2 : Int) ^ W = 0 := by
    rcases Int.mul_eq_zero.1 hfac with h | h
    ·exact h
    ·exact (hne h).elim
   have hc0 : here f (f x.1) l = 0 := small_zero _ q W (by omega) hc
   have hm : ∀ y ∈ rest f (f x.1) l, y ∈ l := fun y hy => (mem_rest f _ l y hy).1
   have hlen : (rest f (f x.1) l).length ≤ n := by
    have := len_rest_lt f (f x.1) l x hx rfl
    omega
   have hzr : evZ (fun m => ((2 : Int) ^ W) ^ f m) (rest f (f x.1) l) = 0 := by
    have := evZ_rest f ((2 : Int) ^ W) (f x.1) l
    rw [hz', hc0] at this; simpa using this.symm
   rw [evF_rest f g (f x.1) x.1 l (fun y hy e => hu y hy x hx e), hc0, ih _ hlen (fun y hy z hz e => hu y (hm y hy) z (hm z hz) e) (by omega) hzr]
   rw [ic_zero]; grind
end ChEC
namespace ChEC
structure K where
 v : Int
 n : Nat
 d : Mon
namespace K
def add (a b : K) : K := ⟨a.v + b.v, a.n + b.n, ⟨max a.d.a b.d.a, max a.d.b b.d.b, max a.d.c b.d.c, max a.d.d b.d.d⟩⟩
def sub (a b : K) : K := ⟨a.v - b.v, a.n + b.n, ⟨max a.d.a b.d.a, max a.d.b b.d.b, max a.d.c b.d.c, max a.d.d b.d.d⟩⟩
def mul (a b : K) : K := bif a.n == 0 || b.n == 0 then ⟨0, 0, ⟨0, 0, 0, 0⟩⟩ else ⟨a.v * b.v, a.n * b.n, a.d.mul b.d⟩
def const (c : Int) : K := ⟨c, c.natAbs, ⟨0, 0, 0, 0⟩⟩
def mono (W : Nat) (r m : Mon) : K := ⟨((2 : Int) ^ W) ^ r.pk m, 1, m⟩
def ok (W : Nat) (r : Mon) (a : K) : Bool := a.v == 0 && decide (a.n < 2 ^ W) && decide (a.d.a < r.a) && decide (a.d.b < r.b) && decide (a.d.c < r.c)
section
variable {M : Nat} [NeZero M] (W : Nat) (r : Mon) (e : Mon → Fin M)
def Rep (k : K) (f : Fin M) : Prop := ∃ l : LP, evZ (fun m => ((2 : Int) ^ W) ^ r.pk m) l = k.v ∧ norm l ≤ k.n ∧ (∀ x ∈ l, x.1.le k.d) ∧ evF e l = f
theorem rep_const (he : e ⟨0, 0, 0, 0⟩ = 1) (c : Int) : Rep W r e (const c) (ic c) :=
 ⟨[(⟨0, 0, 0, 0⟩, c)], by simp [evZ, const, Mon.pk], by simp [norm, const], by simp [Mon.le, const], by simp only [evF, he]; grind⟩
theorem rep_mono (m : Mon) : Rep W r e (mono W r m) (e m) :=
 ⟨[(m, 1)], by simp [evZ, mono], by simp [norm, mono], by simp [Mon.le, mono], by simp only [evF, ic_one]; grind⟩
theorem rep_add {a b : K} {f g : Fin M} (ha : Rep W r e a f) (hb : Rep W r e b g) : Rep W r e (add a b) (f + g) := by
 obtain ⟨l, h1, h2, h3, h4⟩ := ha
 obtain ⟨m, k1, k2, k3, k4⟩ := hb
 refine ⟨l ++ m, by rw [evZ_append, h1, k1]; rfl, by rw [norm_append]; simp only [add]; omega, ?_, by rw [evF_append, h4, k4]⟩
 intro x hx
 rcases List.mem_append.1 hx with hx | hx
 ·have := h3 x hx; simp only [Mon.le, add] at *; omega
 ·have := k3 x hx; simp only [Mon.le, add] at *; omega
def negL (l : LP) : LP := l.map fun x => (x.1, -x.2)
theorem rep_sub {a b : K} {f g : Fin M} (ha : Rep W r e a f) (hb : Rep W r e b g) : Rep W r e (sub a b) (f - g) := by
 obtain ⟨l, h1, h2, h3, h4⟩ := ha
 obtain ⟨m, k1, k2, k3, k4⟩ := hb
 have n1 : ∀ m : LP, evZ (fun m => ((2 : Int) ^ W) ^ r.pk m) (negL m) = - evZ (fun m => ((2 : Int) ^ W) ^ r.pk m) m := by
  intro m; induction m with
  | nil => simp [negL, evZ]
  | cons x m ih => simp only [negL, List.map_cons, evZ] at *; rw [ih]; grind
 have n2 : ∀ m : LP, norm (negL m) = norm m := by
  intro m; induction m with
  | nil => rfl
  | cons x m ih => simp only [negL, List.map_cons, norm, Int.natAbs_neg] at *; rw [ih]
 have n3 : ∀ m : LP, evF e (negL m) = - evF e m := by
  intro m; induction m with
  | nil => simp only [negL, List.map_nil, evF]; grind
  | cons x m ih => simp only [negL, List.map_cons, evF, ic_neg] at *; rw [ih]; grind
 refine ⟨l ++ negL m, by rw [evZ_append, n1, h1, k1]; simp only [sub]; omega, by rw [norm_append, n2]; simp only [sub]; omega, ?_, by rw [evF_append, n3, h4, k4]; grind⟩
 intro x hx
 rcases List.mem_append.1 hx with hx | hx
 ·have := h3 x hx; simp only [Mon.le, sub] at *; omega
 ·simp only [negL, List.mem_map] at hx
  obtain ⟨y, hy, rfl⟩ := hx
  have := k3 y hy; simp only [Mon.le, sub] at *; omega
theorem rep_mul (he : ∀ m n, e (m.mul n) = e m * e n) {a b : K} {f g : Fin M} (ha : Rep W r e a f) (hb : Rep W r e b g) : Rep W r e (mul a b) (f * g) := by
 obtain ⟨l, h1, h2, h3, h4⟩ := ha
 obtain ⟨m, k1, k2, k3, k4⟩ := hb
 have z : ∀ l : LP, norm l = 0 → evF e l = 0 := by
  intro l hl
  induction l with
  | nil => rfl
  | cons x l ih =>
   simp only [norm] at hl
   have hx : x.2 = 0 := by omega
   simp only [evF, hx, ih (by omega), ic_zero]; grind
 unfold mul
 by_cases h0 : (a.n == 0 || b.n == 0) = true
 ·rw [h0]
  refine ⟨[], rfl, Nat.le_refl _, by simp, ?_⟩
  simp only [Bool.or_eq_true, beq_iff_eq] at h0
  rcases h0 with h0 | h0
  ·have : f = 0 := by rw [← h4]; exact z l (by omega)
   rw [this]; simp only [evF]; grind
  ·have : g = 0 := by rw [← k4]; exact z m (by omega)
   rw [this]; simp only [evF]; grind
 rw [Bool.not_eq_true] at h0
 rw [h0]
 refine ⟨mulL l m, ?_, by rw [norm_mulL]; exact Nat.mul_le_mul h2 k2, ?_, by rw [evF_mulL e he, h4, k4]⟩
 ·rw [evZ_mulL _ (fun m n => by rw [Mon.pk_mul, Int.pow_add]), h1, k1]; rfl
 ·intro x hx
  obtain ⟨y, hy, z, hz, e⟩ := mem_mulL l m x hx
  have := h3 y hy; have := k3 z hz
  rw [e]; simp only [Mon.le, Mon.mul, cond_false] at *; omega
theorem zero_of_ok {a : K} {f : Fin M} (ha : Rep W r e a f) (h : ok W r a = true) : f = 0 := by
 obtain ⟨l, h1, h2, h3, h4⟩ := ha
 simp only [ok, Bool.and_eq_true, beq_iff_eq, decide_eq_true_eq] at h
 obtain ⟨⟨⟨⟨hv, hn⟩, ha⟩, hb⟩, hc⟩ := h
 rw [← h4]
 refine kron r.pk e W l.length l (Nat.le_refl _) ?_ (by omega) (by rw [h1, hv])
 intro x hx y hy hxy
 have := h3 x hx; have := h3 y hy
 simp only [Mon.le] at *
 exact Mon.pk_inj r _ _ (by omega) (by omega) hxy
end
end K
structure Q (α : Type) where
 a : α
 b : α
structure Rg (α : Type) where
 add : α → α → α
 sub : α → α → α
 mul : α → α → α
 ok : α → Bool
def rgK (W : Nat) (r : Mon) : Rg K := ⟨K.add, K.sub, K.mul, K.ok W r⟩
def rgQ {α : Type} (R : Rg α) (f : α) : Rg (Q α) where
 add p q := ⟨R.add p.a q.a, R.add p.b q.b⟩
 sub p q := ⟨R.sub p.a q.a, R.sub p.b q.b⟩
 mul p q := ⟨R.add (R.mul p.a q.a) (R.mul f (R.mul p.b q.b)), R.add (R.mul p.a q.b) (R.mul p.b q.a)⟩
 ok p := R.ok p.a && R.ok p.b
structure Fits {α : Type} {M : Nat} [NeZero M] (R : Rg α) (rep : α → Fin M → Prop) : Prop where
 add : ∀ {a b f g}, rep a f → rep b g → rep (R.add a b) (f + g)
 sub : ∀ {a b f g}, rep a f → rep b g → rep (R.sub a b) (f - g)
 mul : ∀ {a b f g}, rep a f → rep b g → rep (R.mul a b) (f * g)
 ok : ∀ {a f}, rep a f → R.ok a = true → f = 0
def repQ {α : Type} {M : Nat} [NeZero M] (rep : α → Fin M → Prop) (y : Fin M) (p : Q α) (f : Fin M) : Prop := ∃ u v, rep p.a u ∧ rep p.b v ∧ f = u + v * y
theorem fitsK {M : Nat} [NeZero M] (W : Nat) (r : Mon) (e : Mon → Fin M) (he : ∀ m n, e (m.mul n) = e m * e n) : Fits (rgK W r) (K.Rep W r e) :=
 ⟨K.rep_add W r e, K.rep_sub W r e, K.rep_mul W r e he, K.zero_of_ok W r e⟩
theorem fitsQ {α : Type} {M : Nat} [NeZero M] {R : Rg α} {rep : α → Fin M → Prop} (h : Fits R rep) {f : α} {g y : Fin M} (hf : rep f g) (hy : y * y = g) : Fits (rgQ R f) (repQ rep y) := by
 constructor
 ·rintro a b f g ⟨u, v, h1, h2, rfl⟩ ⟨u', v', h3, h4, rfl⟩
  exact ⟨_, _, h.add h1 h3, h.add h2 h4, by grind⟩
 ·rintro a b f g ⟨u, v, h1, h2, rfl⟩ ⟨u', v', h3, h4, rfl⟩
  exact ⟨_, _, h.sub h1 h3, h.sub h2 h4, by grind⟩
 ·rintro a b f g ⟨u, v, h1, h2, rfl⟩ ⟨u', v', h3, h4, rfl⟩
  exact ⟨_, _, h.add (h.mul h1 h3) (h.mul hf (h.mul h2 h4)), h.add (h.mul h1 h4) (h.mul h2 h3), by grind⟩
 ·rintro a f ⟨u, v, h1, h2, rfl⟩ hk
  simp only [rgQ, Bool.and_eq_true] at hk
  rw [h.ok h1 hk.1, h.ok h2 hk.2]; grind
end ChEC
