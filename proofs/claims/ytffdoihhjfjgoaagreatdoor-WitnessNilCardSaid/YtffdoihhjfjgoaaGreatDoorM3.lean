import Derived.Test.YtffdoihhjfjgoaaGreatDoorM2
import Derived.Laws.StructEq
import Derived.Laws.Pointers
import Derived.ChangeKeysEq
/- Operations: stores, new blocks, places. -/
namespace Go.Ab
open Go Go.Chr Go.RowKit
section
variable {C : Ctx} {ι : Nat → Option Loc} {N : Nat → Prop} {w : World} {nx : Nat} {r : OpR} {o : Oper} {ρ : Operand → Option AV}
def setI (k : IntKind) (l : List Int) (i : Nat) : AV → Option Body
 | .c (.int k' z) => bif decide (k = k') then some (.ints k (l.set i z)) else none
 | _ => none
def setE (l : List AV) (i off : Nat) (u : AV) : Option Body := match l[i]? with
 | some v => (setT (expandA v) off u).map fun v' => .els (l.set i v')
 | none => none
def ofInt (k : IntKind) : CV → Option Int
 | .int k' n => bif decide (k = k') then some n else none
 | _ => none
def ofBool : CV → Option Bool
 | .bool b => some b
 | _ => none
def ofStr : CV → Option (List Int)
 | .str l => some l
 | _ => none
def ofNat' (m : Nat) : CV → Option Nat
 | .nat m' x => bif Nat.ble m' m && Nat.ble m two256 then some x else none
 | _ => none
def ofArr (k : IntKind) (n : Nat) : CV → Option (List Int)
 | .arr k' n' l => bif decide (k = k') && Nat.beq n n' then some l else none
 | _ => none
def ofNl : CV → Option Unit
 | .nl => some ()
 | _ => none
def ofInts (k : IntKind) : CV → Option (List Int)
 | .ints k' l => bif decide (k = k') then some l else none
 | .raw (.slice none 0 0) => some []
 | _ => none
def ofRows (sz : Nat) (t : Tag) : CV → Option (List (El t))
 | .rows sz' t' xs => bif Nat.beq sz sz' then (match decEq t' t with
  | isTrue h => some (h ▸ xs)
  | isFalse _ => none) else none
 | .raw (.slice none 0 0) => some []
 | _ => none
def partsC : CV → Option (CV × CV)
 | .pr x y => some (x, y)
 | _ => none
def ofCV : (t : Tag) → CV → Option (El t)
 | .int k, v => ofInt k v
 | .bool, v => ofBool v
 | .str, v => ofStr v
 | .nat m, v => ofNat' m v
 | .arr k n, v => ofArr k n v
 | .nl, v => ofNl v
 | .pr a b, v => match partsC v with
  | some (x, y) => match ofCV a x, ofCV b y with
   | some p, some q => some (p, q)
   | _, _ => none
  | none => none
 | .ints k, v => ofInts k v
 | .rows sz t, v => ofRows sz t v
theorem ofCV_rel : ∀ {t : Tag} {v : CV} {x : El t} {cs : List Value}, ofCV t v = some x → v.rel N w cs → t.rel N w x cs
 | .int k, v, x, cs, h, hv => by
  change ofInt k v = some x at h
  unfold ofInt at h
  split at h
  ·rename_i k' n
   cases e : decide (k = k') with
   | false => rw [e] at h; cases h
   | true =>
    rw [e] at h; injection h with h
    have := of_decide_eq_true e; subst this
    exact h ▸ hv
  ·cases h
 | .bool, v, x, cs, h, hv => by
  change ofBool v = some x at h
  unfold ofBool at h
  split at h
  ·injection h with h; exact h ▸ hv
  ·cases h
 | .str, v, x, cs, h, hv => by
  change ofStr v = some x at h
  unfold ofStr at h
  split at h
  ·injection h with h; exact h ▸ hv
  ·cases h
 | .nat m, v, x, cs, h, hv => by
  change ofNat' m v = some x at h
  unfold ofNat' at h
  split at h
  ·rename_i m' y
   cases e : Nat.ble m' m && Nat.ble m two256 with
   | false => rw [e] at h; cases h
   | true =>
    rw [e] at h; injection h with h
    simp only [Bool.and_eq_true] at e
    have h3 : natRel m y cs := ⟨hv.1, Nat.lt_of_lt_of_le hv.2.1 (bleN e.1), bleN e.2⟩
    exact h ▸ h3
  ·cases h
 | .arr k n, v, x, cs, h, hv => by
  change ofArr k n v = some x at h
  unfold ofArr at h
  split at h
  ·rename_i k' n' l
   cases e : decide (k = k') && Nat.beq n n' with
   | false => rw [e] at h; cases h
   | true =>
    rw [e] at h; injection h with h
    simp only [Bool.and_eq_true, decide_eq_true_eq] at e
    obtain ⟨rfl, e⟩ := e
    have := beqN e; subst this
    exact h ▸ hv
  ·cases h
 | .nl, v, x, cs, h, hv => by
  change ofNl v = some x at h
  unfold ofNl at h
  split at h
  ·exact hv
  ·cases h
 | .pr a b, v, x, cs, h, hv => by
  unfold ofCV at h
  split at h
  ·rename_i y z hp
   split at h
   ·rename_i p q h1 h2
    injection h with h
    unfold partsC at hp
    split at hp
    ·injection hp with hp; injection hp with e1 e2; subst e1; subst e2
     obtain ⟨c1, c2, e, g1, g2⟩ := hv
     have h3 : (Tag.pr a b).rel N w (p, q) cs := ⟨c1, c2, e, ofCV_rel h1 g1, ofCV_rel h2 g2⟩
     exact h ▸ h3
    ·cases hp
   ·cases h
  ·cases h
 | .ints k, v, x, cs, h, hv => by
  change ofInts k v = some x at h
  unfold ofInts at h
  split at h
  ·rename_i k' n
   cases e : decide (k = k') with
   | false => rw [e] at h; cases h
   | true =>
    rw [e] at h; injection h with h
    have := of_decide_eq_true e; subst this
    exact h ▸ hv
  ·injection h with h
   obtain ⟨e, _⟩ : cs = [_] ∧ _ := hv
   have h3 : intsRel N w k [] cs := ⟨⟨none, 0, e, Nat.le_refl _, fun h => absurd h (by simp)⟩, fun x hx => by cases hx⟩
   exact h ▸ h3
  ·cases h
 | .rows sz t, v, x, cs, h, hv => by
  change ofRows sz t v = some x at h
  unfold ofRows at h
  split at h
  ·rename_i sz' t' xs
   cases e : Nat.beq sz sz' with
   | false => rw [e] at h; cases h
   | true =>
    rw [e] at h
    have := beqN e; subst this
    simp only [cond_true] at h
    split at h
    ·rename_i ht _
     subst ht
     injection h with h
     exact h ▸ hv
    ·cases h
  ·injection h with h
   obtain ⟨e, _⟩ : cs = [_] ∧ _ := hv
   have h3 : (Tag.rows sz t).rel N w ([] : List (El t)) cs := ⟨[], rfl, none, 0, e, Nat.le_refl _, fun h => absurd h (by simp)⟩
   exact h ▸ h3
  ·cases h
def cvOf : AV → Option CV
 | .c v => some v
 | .pr a b => match cvOf a, cvOf b with
  | some x, some y => some (.pr x y)
  | _, _ => none
 | _ => none
theorem cvOf_rel : ∀ {a : AV} {v : CV} {cs : List Value}, cvOf a = some v → a.rel ι N w cs → v.rel N w cs
 | .c u, v, cs, h, hr => by injection h with h; subst h; exact hr
 | .pr a b, v, cs, h, ⟨c1, c2, e, h1, h2⟩ => by
  unfold cvOf at h
  split at h
  ·rename_i x y hx hy
   injection h with h; subst h
   exact ⟨c1, c2, e, cvOf_rel hx h1, cvOf_rel hy h2⟩
  ·cases h
 | .ptr _ _ _ _, _, _, h, _ => by cases h
 | .cp _ _ _, _, _, h, _ => by cases h
 | .own _ _ _, _, _, h, _ => by cases h
 | .sub _ _ _ _, _, _, h, _ => by cases h
 | .inn _ _ _ _ _ _, _, _, h, _ => by cases h
 | .t0, _, _, h, _ => by cases h
 | .t2 _ _, _, _, h, _ => by cases h
 | .t3 _ _ _, _, _, h, _ => by cases h
 | .fn _ _, _, _, h, _ => by cases h
 | .hd _ _, _, _, h, _ => by cases h
def setRw (t : Tag) (xs : List (El t)) (i off : Nat) (u : AV) : Option Body := match setT (expandC (toCV t (xs.getD i (dEl t)))) off u with
 | some v => match cvOf v with
  | some v' => match ofCV t v' with
   | some x => some (.rows t (xs.set i x))
   | none => none
  | none => none
 | none => none
def setB : Body → Nat → Nat → AV → Option Body
 | .ints k l, i, _, u => setI k l i u
 | .els l, i, off, u => setE l i off u
 | .rows t xs, i, off, u => setRw t xs i off u
theorem setB_rel {esz : Nat} : ∀ {body : Body} {i off : Nat} {u : AV} {body' : Body} {cells us : List Value}, body.rel ι N w esz cells → u.rel ι N w us → i < body.len → off < esz → (us.length = 1 ∨ off + us.length ≤ esz) → setB body i off u = some body' →
  ∃ c1 c2 c3, cells = c1 ++ (c2 ++ c3) ∧ c1.length = i * esz ∧ c2.length = esz ∧ off + us.length ≤ esz ∧ body'.rel ι N w esz (c1 ++ ((c2.take off ++ (us ++ c2.drop (off + us.length))) ++ c3)) ∧ body'.len = body.len
 | .ints k l, i, off, u, body', cells, us, ⟨he, hc, hr⟩, hu, hi, ho, hf, h => by
  change setI k l i u = some body' at h
  unfold setI at h
  split at h
  ·rename_i k' z
   cases e2 : decide (k = k') with
   | false => rw [e2] at h; cases h
   | true =>
    rw [e2] at h; injection h with h; subst h
    have := of_decide_eq_true e2; subst this
    subst he
    obtain ⟨rfl, hz⟩ := hu
    have hi : i < l.length := hi
    obtain ⟨e, _⟩ := ints_at hi hr
    refine ⟨_, _, _, hc.trans e, by simp <;> omega, rfl, by simp <;> omega, ⟨rfl, ?_, fun x hx => ?_⟩, by simp [Body.len]⟩
    ·have : off = 0 := by omega
     subst this
     rw [list_set_eq _ _ _ hi]
     simp
    ·rcases List.mem_or_eq_of_mem_set hx with hx | hx
     ·exact hr x hx
     ·subst hx; exact hz
  ·cases h
 | .els l, i, off, u, body', cells, us, hb, hu, hi, ho, hf, h => by
  change setE l i off u = some body' at h
  unfold setE at h
  split at h
  ·rename_i v hv
   simp only [Option.map_eq_some_iff] at h
   obtain ⟨v', hv', rfl⟩ := h
   obtain ⟨c1, c2, c3, e, h1, h2, h3, h4⟩ := relList_at hb hv
   have hle : off + us.length ≤ esz := by rcases hf with hf | hf <;> omega
   have lu := hu.len
   have hx := expandA_rel h3
   have hxs := hx.len
   refine ⟨c1, c2, c3, e, h1, h2, hle, h4 v' _ ?_ (setT_rel hx hu (by omega) hv'), by simp [Body.len]⟩
   simp; omega
  ·cases h
 | .rows t xs, i, off, u, body', cells, us, hb, hu, hi, ho, hf, h => by
  change setRw t xs i off u = some body' at h
  unfold setRw at h
  split at h
  ·rename_i v hset
   split at h
   ·rename_i v' hcv
    split at h
    ·rename_i x hx
     injection h with h; subst h
     have hi : i < xs.length := hi
     have hget : xs[i]? = some (xs.getD i (dEl t)) := by
      rw [List.getElem?_eq_getElem hi, List.getD_eq_getElem?_getD, List.getElem?_eq_getElem hi]; rfl
     obtain ⟨c1, c2, c3, e, h1, h2, h3, h4⟩ := relList_at hb hget
     have hle : off + us.length ≤ esz := by rcases hf with hf | hf <;> omega
     have lu := hu.len
     have hxr : (expandC (toCV t (xs.getD i (dEl t)))).rel ι N w c2 := expandC_rel ((toCV_rel t _ _).2 h3)
     have hxs := hxr.len
     refine ⟨c1, c2, c3, e, h1, h2, hle, h4 x _ ?_ (ofCV_rel hx (cvOf_rel hcv (setT_rel hxr hu (by omega) hset))), by simp [Body.len]⟩
     simp; omega
    ·cases h
   ·cases h
  ·cases h
def aStore (C : Ctx) (h : Heap) (t : TypeId) (p u : AV) (k : OpR → Prop) : Prop := match kindOf C t with
 | none => False
 | some (_, size) => match p with
  | .ptr (.l n) i esz off => match getK h n with
   | some (.cells ty esz' body) => cond (Nat.beq esz esz' && (Nat.beq u.size size && (u.flat && (Nat.beq size 1 || Nat.ble (off + size) esz))))
     (match setB body i off u with
      | some body' => k ⟨.t0, [(n, some (.cells ty esz' body'))], [], [(n, .cells ty esz' body)]⟩
      | none => False) False
   | _ => False
  | _ => False
theorem setRow_upd (w : World) (g : Nat) (cs : Array Value) (S : Nat → Prop) (hS : S g) : Upd S w (w.setRow g cs) :=
 ⟨rfl, rfl, rfl, by simp [World.setRow], fun k _ hn => by
  have : g ≠ k := fun e => hn (e ▸ hS)
  simp [World.setRow, Array.getElem?_modify, this]⟩
theorem run_store {o : Oper} {a : Act} {t : TypeId} {x y : Operand} (ho : o.op = .store t x y) {b of_ : Nat} (hx : a.eval x = .pointer (some ⟨b, of_, none⟩)) {size : Nat} {g : Bool} (hk : kindOf C t = some (g, size))
  {us : List Value} (hy : (a.eval y).cells = us.toArray) (hl : us.length = size) (h1 : ∀ u ∈ us, u.oneCell' = true) {cur : Array Value} {ty : TypeId} (hh : w.heap[b]? = some (.cells cur ty (0, 0))) (hfit : of_ + us.length ≤ cur.size) :
  (execOp a.eval o).run C.P w = .ok .skip (w.setRow b (cur.toList.take of_ ++ us ++ cur.toList.drop (of_ + us.length)).toArray) := by
 obtain ⟨d, i, hu, hi, hd, hs⟩ := kindOf_eq hk
 have hst := run_storeCells_at C.P b of_ ty us 0 cur w hh (by simpa using hfit) h1
 have hsz : us.length = i.size := by omega
 unfold execOp
 simp [ho, hx, Instr.storeAt, Instr.sureAddr, storeVar, sizeOf, typeInfo, hi, hy, hsz, hst]
theorem cells_val {u : AV} {v : Value} (h : u.val ι N w v) (hf : u.flat = true) : ∃ us : List Value, v.cells = us.toArray ∧ u.rel ι N w us := by
 unfold AV.val asVal at h
 cases ha : u.isAgg with
 | true =>
  rw [ha] at h
  obtain ⟨x, rfl, hx⟩ := h
  exact ⟨x, rfl, hx⟩
 | false =>
  rw [ha] at h
  have h : u.rel ι N w [v] := h
  have h1 := AV.rel.one hf h v (by simp)
  refine ⟨[v], ?_, h⟩
  cases v <;> first | rfl | cases h1
theorem sound_store {h : Heap} {t : TypeId} {x y : Operand} (ho : o.op = .store t x y) {p u : AV} (hx : ρ x = some p) (hy : ρ y = some u) {k : OpR → Prop} (hk : aStore C h t p u k) :
  ∃ r, OpSound C nx o ρ r ∧ r.Ok ∧ (∀ q ∈ r.rds, getK h q.1 = some q.2) ∧ k r := by
 unfold aStore at hk
 split at hk
 ·exact hk.elim
 rename_i agg size hkind
 split at hk
 ·rename_i n i esz off
  split at hk
  ·rename_i ty esz' body hb
   replace hk := cond_prop hk
   obtain ⟨hc, hk⟩ := hk
   simp only [Bool.and_eq_true, Bool.or_eq_true] at hc
   obtain ⟨he, hus, hfl, hfit⟩ := hc
   have := beqN he; subst this
   have hus := beqN hus
   split at hk
   ·rename_i body' hset
    refine ⟨_, ?_, ⟨fun q hq => ⟨(n, .cells ty esz body), by simp, by simp at hq; rw [hq]⟩, by simp⟩, fun q hq => by simp at hq; subst hq; exact hb, hk⟩
    intro ι N w a hp hop
    obtain ⟨L, hL, hi, hoff, e⟩ := hop x _ (by rw [ho]; simp [Op.operands]) hx
    injection e with e _
    have hL : ι n = some L := hL
    obtain ⟨us, hcells, hur⟩ := cells_val (hop y _ (by rw [ho]; simp [Op.operands]) hy) hfl
    have lu := hur.len
    obtain ⟨L', k1, k2, k3⟩ := hp.rds (n, .cells ty esz body) (by simp)
    rw [hL] at k1; injection k1 with k1; subst k1
    rcases k2 with ⟨_, _, _, k4⟩ | ⟨hph, pre, xs, post, ⟨hl1, hl2, hl3, hl4⟩, htot⟩
    ·omega
    obtain ⟨c1, c2, c3, e0, e1, e2, e3, e4, e5⟩ := setB_rel hl3 hur (by omega) hoff (by
     rcases hfit with hfit | hfit
     ·exact .inl (by have := beqN hfit; omega)
     ·exact .inr (by have := bleN hfit; omega)) hset
    subst e0
    refine Outs.skip (run_store (C := C) (w := w) ho e hkind hcells (by omega) (AV.rel.one hfl hur) hl1 (by simp <;> omega)) ?_
    have hnew : (((pre ++ ((c1 ++ (c2 ++ c3)) ++ post)).toArray.toList.take (L.off + (i * esz + off)) ++ us ++ (pre ++ ((c1 ++ (c2 ++ c3)) ++ post)).toArray.toList.drop (L.off + (i * esz + off) + us.length)).toArray)
      = (pre ++ ((c1 ++ ((c2.take off ++ (us ++ c2.drop (off + us.length))) ++ c3)) ++ post)).toArray := by
     congr 1
     have q1 : L.off + (i * esz + off) = pre.length + (c1.length + off) := by omega
     rw [q1, List.toList_toArray]
     rw [show pre ++ ((c1 ++ (c2 ++ c3)) ++ post) = (pre ++ c1) ++ (c2 ++ (c3 ++ post)) by simp only [List.append_assoc]]
     rw [List.take_append, List.take_of_length_le (by simp <;> omega), List.drop_append, List.drop_eq_nil_of_le (by simp <;> omega), List.nil_append]
     rw [show pre.length + (c1.length + off) - (pre ++ c1).length = off by simp <;> omega, show pre.length + (c1.length + off) + us.length - (pre ++ c1).length = off + us.length by simp <;> omega]
     rw [List.take_append_of_le_length (by omega), List.drop_append_of_le_length (by omega)]
     simp only [List.append_assoc]
    rw [hnew]
    have hupd : Upd (fun k => ∃ p ∈ [(n, some (Blk'.cells ty esz body'))], ∃ L, ι p.1 = some L ∧ L.ph = false ∧ k = L.blk) w (w.setRow L.blk (pre ++ ((c1 ++ ((c2.take off ++ (us ++ c2.drop (off + us.length))) ++ c3)) ++ post)).toArray) :=
     setRow_upd w L.blk _ _ ⟨(n, some (.cells ty esz body')), by simp, L, hL, hph, rfl⟩
    have hkeep : ∀ k, N k → (w.setRow L.blk (pre ++ ((c1 ++ ((c2.take off ++ (us ++ c2.drop (off + us.length))) ++ c3)) ++ post)).toArray).heap[k]? = w.heap[k]? := fun k hk => hupd.heap k (hp.env.1 k hk) (by
     rintro ⟨p, hpm, L2, hL2, _, rfl⟩
     simp at hpm; subst hpm
     rw [hL] at hL2; injection hL2 with hL2; subst hL2
     exact k3 hph hk)
    refine ⟨ι, N, ⟨fun _ _ h => h, fun _ _ h => .inl h, fun _ h => h, fun _ h => .inl h, fun k hk => Nat.lt_of_lt_of_le (hp.env.1 k hk) hupd.size, hupd, ?_, fun j blk h => by simp at h, fun i j _ _ h => by simp at h⟩, rfl⟩
    intro b blk hm
    simp at hm
    obtain ⟨rfl, rfl⟩ := hm
    refine ⟨L, hL, .inr ⟨hph, pre, _, post, ⟨setRow_heap w L.blk _ _ ty (0, 0) hl1, hl2, e4.mono (fun _ _ h => h) (fun _ h => h) hkeep, by omega⟩, ?_⟩⟩
    rw [← htot]; simp; omega
   ·exact hk.elim
  ·exact hk.elim
 ·exact hk.elim
def addι (ι : Nat → Option Loc) (nx : Nat) (L : Loc) : Nat → Option Loc := fun b => if b = nx then some L else ι b
theorem addι_old {nx : Nat} {L : Loc} (h : ι nx = none) : ∀ b L', ι b = some L' → addι ι nx L b = some L' := by
 intro b L' hb
 unfold addι
 rw [if_neg (by rintro rfl; rw [h] at hb; cases hb)]
 exact hb
theorem Post.new1 {ty : TypeId} {esz : Nat} {body : Body} (hu : r.upd = []) (hn : r.news = [.cells ty esz body]) (hp : Pre C ι N w nx r) {cells : List Value} (hb : body.rel ι N w esz cells) :
  Post ι N w (addι ι nx ⟨w.heap.size, 0, cells.length, body.len, false⟩) N (w.alloc (.cells cells.toArray ty)) nx r := by
 have hfree : ι nx = none := by simpa using hp.fresh 0 (by rw [hn]; simp)
 have hheap : ∀ k, k < w.heap.size → (w.alloc (.cells cells.toArray ty)).heap[k]? = w.heap[k]? := fun k hk => Below.heap_alloc w _ k hk
 refine ⟨addι_old hfree, ?_, fun _ h => h, fun _ h => .inl h, fun k hk => ?_, ?_, ?_, ?_, ?_⟩
 ·intro b L h
  unfold addι at h
  split at h
  ·rename_i e; subst e; exact .inr ⟨Nat.le_refl _, by rw [hn]; simp⟩
  ·exact .inl h
 ·have := hp.env.1 k hk
  simp only [World.size_alloc]; omega
 ·exact ⟨rfl, rfl, rfl, by simp, fun k hk _ => hheap k hk⟩
 ·intro b blk h; rw [hu] at h; cases h
 ·intro j blk h
  rw [hn] at h
  cases j with
  | zero =>
   simp at h; subst h
   refine ⟨⟨w.heap.size, 0, cells.length, body.len, false⟩, by simp [addι], .inr ⟨rfl, [], cells, [], ⟨?_, rfl, hb.mono (addι_old hfree) (fun _ h => h) (fun k hk => hheap k (hp.env.1 k hk)), rfl⟩, by simp⟩, fun _ => ⟨fun hk => Nat.lt_irrefl _ (hp.env.1 _ hk), .inl (Nat.le_refl _)⟩⟩
   simpa using heap_alloc_new w (.cells cells.toArray ty (0, 0))
  | succ j => simp at h
 ·intro i j Li Lj hi hj hne
  rw [hn] at hi hj
  simp at hi hj; omega
def oneV (t : TypeId) (size : Nat) (v : AV) (nx : Nat) : OpR := ⟨.ptr (.l nx) 0 size 0, [], [.cells t size (.els [v])], []⟩
theorem OpSound.of_new {t : TypeId} {size : Nat} {v : AV} (h0 : 0 < size) (h : ∀ (ι : Nat → Option Loc) (N : Nat → Prop) (w : World) (a : Act), Pre C ι N w nx (oneV t size v nx) → (∀ x v, x ∈ o.op.operands → ρ x = some v → v.val ι N w (a.eval x)) →
  ∃ cells : List Value, (execOp a.eval o).run C.P w = .ok (.value (.pointer (some ⟨w.heap.size, 0, none⟩))) (w.alloc (.cells cells.toArray t)) ∧ cells.length = size ∧ v.rel ι N w cells) : OpSound C nx o ρ (oneV t size v nx) := by
 intro ι N w a hp hop
 obtain ⟨cells, hr, hl, hv⟩ := h ι N w a hp hop
 have hb : (Body.els [v]).rel ι N w size cells := ⟨cells, [], by simp, hl, hv, rfl⟩
 refine Outs.value hr ⟨_, N, Post.new1 rfl rfl hp hb, ?_⟩
 exact ⟨⟨w.heap.size, 0, cells.length, 1, false⟩, by simp [locOf, addι, Body.len], by simp, h0, by simp⟩
theorem OpR.ok_new (t : TypeId) (size : Nat) (v : AV) : (oneV t size v nx).Ok := OpR.ok_read rfl
def aBox (C : Ctx) (nx : Nat) (t : TypeId) (v : AV) (k : OpR → Prop) : Prop := match kindOf C t with
 | none => False
 | some (_, size) => cond (Nat.beq v.size size && (v.flat && Nat.ble 1 size)) (k (oneV t size v nx)) False
theorem sound_box {h : Heap} {t : TypeId} {x : Operand} (ho : o.op = .box t x) {v : AV} (hx : ρ x = some v) {k : OpR → Prop} (hk : aBox C nx t v k) :
  ∃ r, OpSound C nx o ρ r ∧ r.Ok ∧ (∀ q ∈ r.rds, getK h q.1 = some q.2) ∧ k r := by
 unfold aBox at hk
 split at hk
 ·exact hk.elim
 rename_i agg size hkind
 replace hk := cond_prop hk
 obtain ⟨hc, hk⟩ := hk
 simp only [Bool.and_eq_true] at hc
 obtain ⟨h1, hf, h2⟩ := hc
 have h1 := beqN h1
 refine ⟨_, OpSound.of_new (bleN h2) ?_, OpR.ok_new _ _ _, fun q hq => by simp [oneV] at hq, hk⟩
 intro ι N w a hp hop
 obtain ⟨us, hcells, hur⟩ := cells_val (hop x _ (by rw [ho]; simp [Op.operands]) hx) hf
 refine ⟨us, ?_, by rw [hur.len, h1], hur⟩
 unfold execOp
 simp [ho, Instr.box, newVar, newRow, hcells]
def parseInts (k : IntKind) : Nat → List Value → Option (List Int × List Value)
 | 0, cs => some ([], cs)
 | n + 1, .int k' z :: cs => bif decide (k = k') && (decide (k.min ≤ z) && decide (z ≤ k.max)) then (parseInts k n cs).map fun p => (z :: p.1, p.2) else none
 | _ + 1, _ => none
def parseSeq (p : TypeId → List Value → Option (CV × List Value)) : List TypeId → List Value → Option (CV × List Value)
 | [], cs => some (.nl, cs)
 | t :: ts, cs => match p t cs with
  | none => none
  | some (a, cs') => (parseSeq p ts cs').map fun q => (.pr a q.1, q.2)
def natOf : List Int → Nat
 | [a, b, c, d] => a.toNat + 2 ^ 64 * (b.toNat + 2 ^ 64 * (c.toNat + 2 ^ 64 * d.toNat))
 | _ => 0
def arrC (k : IntKind) (n : Nat) (l : List Int) : CV := match k with
 | .u64 => bif Nat.beq n 4 then .nat two256 (natOf l) else .arr k n l
 | _ => .arr k n l
def parse (P : Program) : Nat → TypeId → List Value → Option (CV × List Value)
 | 0, _, _ => none
 | f + 1, t, cs => match P.underlying t with
  | some (.struct fs) => parseSeq (parse P f) (fs.toList.map (·.type)) cs
  | some (.array n e) => match P.underlying e with
   | some (.int k) => (parseInts k n cs).map fun p => (arrC k n p.1, p.2)
   | _ => parseSeq (parse P f) (List.replicate n e) cs
  | some _ => match cs with
   | v :: cs => (constCV v).map fun c => (c, cs)
   | [] => none
  | none => none
theorem parseInts_rel {k : IntKind} : ∀ {n : Nat} {cs : List Value} {l : List Int} {r : List Value}, parseInts k n cs = some (l, r) → cs = l.map (Value.int k) ++ r ∧ l.length = n ∧ ∀ x ∈ l, okI k x
 | 0, cs, l, r, h => by injection h with h; injection h with h1 h2; subst h1; subst h2; exact ⟨rfl, rfl, fun x hx => by cases hx⟩
 | n + 1, [], l, r, h => by cases h
 | n + 1, c :: cs, l, r, h => by
  cases c with
  | int k' z =>
   unfold parseInts at h
   cases e : decide (k = k') && (decide (k.min ≤ z) && decide (z ≤ k.max)) with
   | false => rw [e] at h; cases h
   | true =>
    rw [e] at h
    simp only [cond_true, Option.map_eq_some_iff] at h
    obtain ⟨⟨l', r'⟩, hp, he⟩ := h
    injection he with h1 h2
    subst h1; subst h2
    simp only [Bool.and_eq_true, decide_eq_true_eq] at e
    obtain ⟨rfl, hz⟩ := e
    obtain ⟨e1, e2, e3⟩ := parseInts_rel hp
    exact ⟨by rw [e1]; rfl, by simp [e2], fun x hx => by
     rcases List.mem_cons.1 hx with rfl | hx
     ·exact fun _ => hz
     ·exact e3 x hx⟩
  | _ => cases h
theorem parseSeq_rel {p : TypeId → List Value → Option (CV × List Value)} (hp : ∀ t cs v r, p t cs = some (v, r) → ∃ c, cs = c ++ r ∧ v.rel N w c) :
  ∀ {ts : List TypeId} {cs : List Value} {v : CV} {r : List Value}, parseSeq p ts cs = some (v, r) → ∃ c, cs = c ++ r ∧ v.rel N w c
 | [], cs, v, r, h => by injection h with h; injection h with h1 h2; subst h1; subst h2; exact ⟨[], rfl, rfl⟩
 | t :: ts, cs, v, r, h => by
  unfold parseSeq at h
  split at h
  ·cases h
  ·rename_i a cs' ha
   simp only [Option.map_eq_some_iff] at h
   obtain ⟨⟨v', r'⟩, hq, he⟩ := h
   injection he with h1 h2
   subst h1; subst h2
   obtain ⟨c1, e1, g1⟩ := hp _ _ _ _ ha
   obtain ⟨c2, e2, g2⟩ := parseSeq_rel hp hq
   exact ⟨c1 ++ c2, by rw [e1, e2, List.append_assoc], c1, c2, rfl, g1, g2⟩
theorem natOf_rel {l : List Int} (hl : l.length = 4) (hr : ∀ x ∈ l, okI .u64 x) : natOf l < two256 ∧ natL (natOf l) = l := by
 match l, hl with
 | [a, b, c, d], _ =>
  have ha := hr a (by simp)
  have hb := hr b (by simp)
  have hc := hr c (by simp)
  have hd := hr d (by simp)
  have bd : ∀ x, okI .u64 x → 0 ≤ x ∧ x < 18446744073709551616 := fun x hx => ⟨(hx (by decide)).1, by have h2 : x ≤ 18446744073709551615 := (hx (by decide)).2; omega⟩
  obtain ⟨a0, a1⟩ := bd a ha
  obtain ⟨b0, b1⟩ := bd b hb
  obtain ⟨c0, c1⟩ := bd c hc
  obtain ⟨d0, d1⟩ := bd d hd
  have e : natOf [a, b, c, d] = a.toNat + 18446744073709551616 * (b.toNat + 18446744073709551616 * (c.toNat + 18446744073709551616 * d.toNat)) := rfl
  constructor
  ·rw [e]; unfold two256; omega
  ·obtain ⟨h0, h1, h2, h3⟩ := lb_is (z := natOf [a, b, c, d]) (r0 := a) (r1 := b) (r2 := c) (r3 := d) (c := 0) (by rw [e]; omega) a0 a1 b0 b1 c0 c1 d0 d1
   unfold natL
   rw [h0, h1, h2, h3]
theorem arrC_rel {k : IntKind} {n : Nat} {l : List Int} {cs : List Value} (h : cs = l.map (Value.int k)) (hl : l.length = n) (hr : ∀ x ∈ l, okI k x) : (arrC k n l).rel N w cs := by
 unfold arrC
 split
 ·cases e : Nat.beq n 4 with
  | false => exact ⟨h, hl, hr⟩
  | true =>
   have := beqN e; subst this
   obtain ⟨h1, h2⟩ := natOf_rel (l := l) (by omega) hr
   exact ⟨by rw [h2]; exact h, h1, Nat.le_refl _⟩
 ·exact ⟨h, hl, hr⟩
theorem parse_rel {P : Program} : ∀ {f : Nat} {t : TypeId} {cs : List Value} {v : CV} {r : List Value}, parse P f t cs = some (v, r) → ∃ c, cs = c ++ r ∧ v.rel N w c
 | 0, _, _, _, _, h => by cases h
 | f + 1, t, cs, v, r, h => by
  unfold parse at h
  split at h
  ·exact parseSeq_rel (fun _ _ _ _ => parse_rel) h
  ·split at h
   ·simp only [Option.map_eq_some_iff] at h
    obtain ⟨⟨l, r'⟩, hp, he⟩ := h
    injection he with h1 h2
    subst h1; subst h2
    obtain ⟨e1, e2, e3⟩ := parseInts_rel hp
    exact ⟨_, e1, arrC_rel rfl e2 e3⟩
   ·exact parseSeq_rel (fun _ _ _ _ => parse_rel) h
  ·split at h
   ·rename_i u cs'
    simp only [Option.map_eq_some_iff] at h
    obtain ⟨c, hc, he⟩ := h
    injection he with h1 h2
    subst h1; subst h2
    refine ⟨[u], rfl, ?_⟩
    have := constCV_rel (N := N) (w := w) hc
    have hag : c.isAgg = false := by
     cases u <;> simp only [constCV] at hc
     ·injection hc with hc; subst hc; rfl
     ·rename_i k n
      cases e : decide (k.min ≤ n) && decide (n ≤ k.max) with
      | false => rw [e] at hc; cases hc
      | true => rw [e] at hc; injection hc with hc; subst hc; rfl
     all_goals first | (injection hc with hc; subst hc; rfl) | cases hc
    rw [hag] at this
    exact this
   ·cases h
  ·cases h
def zeroOf (C : Ctx) (t : TypeId) : Option CV := match C.P.info? t with
 | none => none
 | some i => match i.zero with
  | none => none
  | some z => match parse C.P 8 t z.cells.toList with
   | some (v, []) => some v
   | _ => none
theorem zeroOf_rel {t : TypeId} {v : CV} (h : zeroOf C t = some v) : ∃ i z, C.P.info? t = some i ∧ i.zero = some z ∧ v.rel N w z.cells.toList := by
 unfold zeroOf at h
 split at h
 ·cases h
 ·rename_i i hi
  split at h
  ·cases h
  ·rename_i z hz
   split at h
   ·rename_i u hu
    injection h with h; subst h
    obtain ⟨c, e, hr⟩ := parse_rel (N := N) (w := w) hu
    rw [List.append_nil] at e
    exact ⟨i, z, hi, hz, by rw [e]; exact hr⟩
   ·cases h
def aAlloc (C : Ctx) (nx : Nat) (t : TypeId) (k : OpR → Prop) : Prop := match zeroOf C t with
 | none => False
 | some v => deepC v fun v => cond (Nat.ble 1 v.size) (k (oneV t v.size (.c v) nx)) False
theorem sound_alloc {h : Heap} {t : TypeId} (ho : o.op = .alloc t) {k : OpR → Prop} (hk : aAlloc C nx t k) :
  ∃ r, OpSound C nx o ρ r ∧ r.Ok ∧ (∀ q ∈ r.rds, getK h q.1 = some q.2) ∧ k r := by
 unfold aAlloc at hk
 split at hk
 ·exact hk.elim
 rename_i v hz
 rw [deepC_eq] at hk
 replace hk := cond_prop hk
 obtain ⟨hc, hk⟩ := hk
 refine ⟨_, OpSound.of_new (bleN hc) ?_, OpR.ok_new _ _ _, fun q hq => by simp [oneV] at hq, hk⟩
 intro ι N w a hp hop
 obtain ⟨i, z, hi, hz, hr⟩ := zeroOf_rel (N := N) (w := w) hz
 refine ⟨z.cells.toList, ?_, hr.len, hr⟩
 unfold execOp
 simp [ho, Instr.alloc, zeroValue, typeInfo, hi, hz, newVar, newRow]
def aField (C : Ctx) (t : TypeId) (p : AV) (f : Nat) (k : OpR → Prop) : Prop := match C.P.underlying t with
 | some (.struct fs) => match fs[f]? with
  | none => False
  | some fd => match kindOf C fd.type with
   | none => False
   | some (_, size) => cond (Nat.ble 1 size) (match p with
    | .ptr b i esz off => cond (Nat.blt (off + fd.offset) esz) (k ⟨.ptr b i esz (off + fd.offset), [], [], []⟩) False
    | .cp v i off => cond (Nat.blt (off + fd.offset) v.esz) (k ⟨.cp v i (off + fd.offset), [], [], []⟩) False
    | _ => False) False
 | _ => False
theorem add_add_spot {ad : Addr} (i j : Nat) : (ad.add i).add j = ad.add (i + j) := add_of_add ad i j
theorem sound_field {h : Heap} {t : TypeId} {x : Operand} {f : Nat} (ho : o.op = .fieldAddr t x f) {p : AV} (hx : ρ x = some p) {k : OpR → Prop} (hk : aField C t p f k) :
  ∃ r, OpSound C nx o ρ r ∧ r.Ok ∧ (∀ q ∈ r.rds, getK h q.1 = some q.2) ∧ k r := by
 unfold aField at hk
 split at hk
 ·rename_i fs hu
  split at hk
  ·exact hk.elim
  rename_i fd hf
  split at hk
  ·exact hk.elim
  rename_i g size hkind
  replace hk := cond_prop hk
  obtain ⟨h1, hk⟩ := hk
  have h1 := bleN h1
  obtain ⟨d, i0, _, hi0, _, hs0⟩ := kindOf_eq hkind
  have hrun : ∀ (a : Act) (w : World) (ad : Addr), a.eval x = .pointer (some ad) → (execOp a.eval o).run C.P w = .ok (.value (.pointer (some (ad.add fd.offset)))) w := by
   intro a w ad hx
   have hs : (sizeOf fd.type).run C.P w = .ok size w := by simp [sizeOf, typeInfo, hi0, hs0]
   have hne : ¬ size = 0 := by omega
   unfold execOp
   simp only [ho, hx, Instr.fieldAt, Instr.sureAddr, fieldPlace, Sem.run_bind, Sem.run_pure, run_underlying hu w, Result.andThen_ok, hf, hs, if_neg hne]
  split at hk
  ·rename_i b i esz off
   replace hk := cond_prop hk
   obtain ⟨h2, hk⟩ := hk
   refine ⟨_, OpSound.of_read rfl rfl ?_, OpR.ok_read rfl, fun q hq => by simp at hq, hk⟩
   intro ι N w a hp hop
   obtain ⟨L, hL, hi, hoff, e⟩ := hop x _ (by rw [ho]; simp [Op.operands]) hx
   injection e with e _
   refine ⟨_, hrun a w _ e, L, hL, hi, Nat.le_of_ble_eq_true h2, ?_⟩
   rw [Addr.add_mid]
   congr 3
   simp; omega
  ·rename_i v i off
   replace hk := cond_prop hk
   obtain ⟨h2, hk⟩ := hk
   refine ⟨_, OpSound.of_read rfl rfl ?_, OpR.ok_read rfl, fun q hq => by simp at hq, hk⟩
   intro ι N w a hp hop
   obtain ⟨ad, n, c, hv, hi, hoff, e⟩ := hop x _ (by rw [ho]; simp [Op.operands]) hx
   injection e with e _
   refine ⟨_, hrun a w _ e, ad, n, c, hv, hi, Nat.le_of_ble_eq_true h2, ?_⟩
   rw [add_add_spot, Nat.add_assoc]
  ·exact hk.elim
 ·exact hk.elim
def isIntT : Option TypeDesc → Bool
 | some (.int _) => true
 | _ => false
def splitZ : Nat → Int → (Nat → Prop) → Prop
 | 0, _, _ => False
 | n + 1, z, f => cond (z == (n : Int)) (f n) (splitZ n z f)
theorem splitZ_ok : ∀ {n : Nat} {z : Int} {f : Nat → Prop}, splitZ n z f → ∃ j : Nat, j < n ∧ z = j ∧ f j
 | 0, _, _, h => h.elim
 | n + 1, z, f, h => by
  unfold splitZ at h
  cases hb : z == (n : Int) with
  | true => rw [hb] at h; exact ⟨n, by omega, by simpa using hb, h⟩
  | false =>
   rw [hb] at h
   obtain ⟨j, h1, h2, h3⟩ := splitZ_ok h
   exact ⟨j, by omega, h2, h3⟩
def aIndexAddr (C : Ctx) (t : TypeId) (p ix : AV) (k : OpR → Prop) : Prop := match ix with
 | .c (.int _ z) => match C.P.underlying t with
  | some (.array n e) => match kindOf C e with
   | none => False
   | some (_, size) => cond (Nat.ble 1 size) (match p with
    | .ptr b i esz off => cond (Nat.ble (off + n * size) esz) (bif isIntT (C.P.underlying e) then cond (decide (0 ≤ z) && decide (z < (n : Int))) (k ⟨.ptr b i esz (off + z.toNat * size), [], [], []⟩) False else splitZ n z fun j => k ⟨.ptr b i esz (off + j * size), [], [], []⟩) False
    | _ => False) False
  | some (.slice e) => match kindOf C e with
   | none => False
   | some (_, size) => cond (Nat.ble 1 size) (match p with
    | .own b esz n => cond (Nat.beq esz size) (cond (decide (0 ≤ z) && decide (z < (n : Int))) (k ⟨.ptr (.l b) z.toNat esz 0, [], [], []⟩) False) False
    | .sub b esz i n => cond (Nat.beq esz size) (cond (decide (0 ≤ z) && decide (z < (n : Int))) (k ⟨.ptr (.l b) (i + z.toNat) esz 0, [], [], []⟩) False) False
    | .inn b i esz off sz n => cond (Nat.beq sz size) (cond (decide (0 ≤ z) && decide (z < (n : Int))) (k ⟨.ptr b i esz (off + z.toNat * sz), [], [], []⟩) False) False
    | .c (.ints kd l) => cond (Nat.beq 1 size) (cond (decide (0 ≤ z) && decide (z < (l.length : Int))) (k ⟨.cp (.ints kd l) z.toNat 0, [], [], []⟩) False) False
    | .c (.rows sz t xs) => cond (Nat.beq sz size) (cond (decide (0 ≤ z) && decide (z < (xs.length : Int))) (k ⟨.cp (.rows sz t xs) z.toNat 0, [], [], []⟩) False) False
    | _ => False) False
  | _ => False
 | _ => False
theorem run_indexAddr_arr {a : Act} {t : TypeId} {x y : Operand} (ho : o.op = .indexAddr t x y) {ad : Addr} (hx : a.eval x = .pointer (some ad)) {k : IntKind} {z : Int} (hy : a.eval y = .int k z) {n : Nat} {e : TypeId} (hu : C.P.underlying t = some (.array n e))
  {g : Bool} {size : Nat} (hk : kindOf C e = some (g, size)) (h0 : 0 ≤ z) (h1 : z < n) : (execOp a.eval o).run C.P w = .ok (.value (.pointer (some (ad.add (z.toNat * size))))) w := by
 obtain ⟨d, i0, _, hi0, _, hs0⟩ := kindOf_eq hk
 unfold execOp
 simp [ho, hx, hy, Instr.indexAt, asIntOf, run_underlying hu, Instr.sureAddr, h0, h1, sizeOf, typeInfo, hi0, hs0]
theorem run_indexAddr_sl {a : Act} {t : TypeId} {x y : Operand} (ho : o.op = .indexAddr t x y) {ad : Addr} {n c : Nat} (hx : a.eval x = .slice (some ad) n c) {k : IntKind} {z : Int} (hy : a.eval y = .int k z) {e : TypeId} (hu : C.P.underlying t = some (.slice e))
  {g : Bool} {size : Nat} (hk : kindOf C e = some (g, size)) (h0 : 0 ≤ z) (h1 : z < n) : (execOp a.eval o).run C.P w = .ok (.value (.pointer (some (ad.add (z.toNat * size))))) w := by
 obtain ⟨d, i0, _, hi0, _, hs0⟩ := kindOf_eq hk
 unfold execOp
 simp [ho, hx, hy, Instr.indexAt, asIntOf, run_underlying hu, h0, h1, sizeOf, typeInfo, hi0, hs0]
theorem val_int {k : IntKind} {z : Int} {v : Value} (h : (AV.c (.int k z)).val ι N w v) : v = .int k z ∧ okI k z := by
 have h : ([v] = [Value.int k z]) ∧ okI k z := h
 exact ⟨by injection h.1, h.2⟩
theorem eta_addr {A : Addr} {b o : Nat} (h1 : A.block = b) (h2 : A.spot = none) (h3 : A.off = o) : A = ⟨b, o, none⟩ := by
 obtain ⟨x, y, z⟩ := A
 simp at h1 h2 h3
 subst h1; subst h2; subst h3; rfl
theorem sound_indexAddr {h : Heap} {t : TypeId} {x y : Operand} (ho : o.op = .indexAddr t x y) {p ix : AV} (hx : ρ x = some p) (hy : ρ y = some ix) {k : OpR → Prop} (hk : aIndexAddr C t p ix k) :
  ∃ r, OpSound C nx o ρ r ∧ r.Ok ∧ (∀ q ∈ r.rds, getK h q.1 = some q.2) ∧ k r := by
 have mx : x ∈ o.op.operands := by rw [ho]; simp [Op.operands]
 have my : y ∈ o.op.operands := by rw [ho]; simp [Op.operands]
 unfold aIndexAddr at hk
 split at hk
 ·rename_i kd z
  split at hk
  ·rename_i n e hu
   split at hk
   ·exact hk.elim
   rename_i g size hkind
   replace hk := cond_prop hk
   obtain ⟨h1, hk⟩ := hk
   have h1 := bleN h1
   split at hk
   ·rename_i b i esz off
    replace hk := cond_prop hk
    obtain ⟨h2, hk⟩ := hk
    have hz : (0 ≤ z ∧ z < (n : Int)) ∧ k ⟨.ptr b i esz (off + z.toNat * size), [], [], []⟩ := by
     cases hi : isIntT (C.P.underlying e) with
     | true =>
      rw [hi] at hk
      obtain ⟨h3, hk⟩ := cond_prop hk
      simp only [Bool.and_eq_true, decide_eq_true_eq] at h3
      exact ⟨h3, hk⟩
     | false =>
      rw [hi] at hk
      obtain ⟨j, j1, j2, j3⟩ := splitZ_ok hk
      subst j2
      exact ⟨⟨by omega, by omega⟩, by rw [Int.toNat_natCast]; exact j3⟩
    replace hk := hz.2
    have h3 := hz.1
    have h2 := bleN h2
    obtain ⟨z0, z1⟩ := h3
    refine ⟨_, OpSound.of_read rfl rfl ?_, OpR.ok_read rfl, fun q hq => by simp at hq, hk⟩
    intro ι N w a hp hop
    obtain ⟨L, hL, hi, hoff, e⟩ := hop x _ mx hx
    injection e with e _
    obtain ⟨ey, _⟩ := val_int (hop y _ my hy)
    refine ⟨_, run_indexAddr_arr ho e ey hu hkind z0 z1, L, hL, hi, ?_, ?_⟩
    ·have : (z.toNat + 1) * size ≤ n * size := Nat.mul_le_mul_right _ (by omega)
     rw [Nat.add_mul, Nat.one_mul] at this
     omega
    ·rw [Addr.add_mid]
     congr 3
     simp; omega
   ·exact hk.elim
  ·rename_i e hu
   split at hk
   ·exact hk.elim
   rename_i g size hkind
   replace hk := cond_prop hk
   obtain ⟨h1, hk⟩ := hk
   have h1 := bleN h1
   split at hk
   ·rename_i b esz n
    replace hk := cond_prop hk
    obtain ⟨h2, hk⟩ := hk
    replace hk := cond_prop hk
    obtain ⟨h3, hk⟩ := hk
    have := beqN h2; subst this
    simp only [Bool.and_eq_true, decide_eq_true_eq] at h3
    obtain ⟨z0, z1⟩ := h3
    refine ⟨_, OpSound.of_read rfl rfl ?_, OpR.ok_read rfl, fun q hq => by simp at hq, hk⟩
    intro ι N w a hp hop
    obtain ⟨L, hL, hn, hv⟩ := hop x _ mx hx
    obtain ⟨ey, _⟩ := val_int (hop y _ my hy)
    rcases hv with ⟨_, h0, _⟩ | ⟨hph, c, e, hc, ht⟩
    ·omega
    injection e with e _
    refine ⟨_, run_indexAddr_sl ho e ey hu hkind z0 z1, L, hL, by omega, by omega, ?_⟩
    rw [Addr.add_mid, Nat.add_zero]
   ·rename_i b esz i n
    replace hk := cond_prop hk
    obtain ⟨h2, hk⟩ := hk
    replace hk := cond_prop hk
    obtain ⟨h3, hk⟩ := hk
    have := beqN h2; subst this
    simp only [Bool.and_eq_true, decide_eq_true_eq] at h3
    obtain ⟨z0, z1⟩ := h3
    refine ⟨_, OpSound.of_read rfl rfl ?_, OpR.ok_read rfl, fun q hq => by simp at hq, hk⟩
    intro ι N w a hp hop
    obtain ⟨L, hL, hn, hv⟩ := hop x _ mx hx
    obtain ⟨ey, _⟩ := val_int (hop y _ my hy)
    rcases hv with ⟨_, h0, _⟩ | ⟨hph, A, c, e, hc, hb, hs, ho'⟩
    ·omega
    injection e with e _
    have hcap : 0 < c := by omega
    obtain ⟨ho', _⟩ := ho' hcap
    rw [eta_addr hb hs ho'] at e
    refine ⟨_, run_indexAddr_sl ho e ey hu hkind z0 z1, L, hL, by omega, by omega, ?_⟩
    rw [Addr.add_mid, Nat.add_zero, Nat.add_mul, Nat.add_assoc]
   ·rename_i b i esz off sz n
    replace hk := cond_prop hk
    obtain ⟨h2, hk⟩ := hk
    replace hk := cond_prop hk
    obtain ⟨h3, hk⟩ := hk
    have := beqN h2; subst this
    simp only [Bool.and_eq_true, decide_eq_true_eq] at h3
    obtain ⟨z0, z1⟩ := h3
    refine ⟨_, OpSound.of_read rfl rfl ?_, OpR.ok_read rfl, fun q hq => by simp at hq, hk⟩
    intro ι N w a hp hop
    obtain ⟨L, A, c, hL, hi, hfit, e, hc, hb, hs, ho'⟩ := hop x _ mx hx
    obtain ⟨ey, _⟩ := val_int (hop y _ my hy)
    injection e with e _
    rw [eta_addr hb hs (ho' (by omega))] at e
    refine ⟨_, run_indexAddr_sl ho e ey hu hkind z0 z1, L, hL, hi, ?_, ?_⟩
    ·have : (z.toNat + 1) * sz ≤ n * sz := Nat.mul_le_mul_right _ (by omega)
     rw [Nat.add_mul, Nat.one_mul] at this
     omega
    ·rw [Addr.add_mid]
     congr 3
     simp; omega
   ·rename_i kk l
    replace hk := cond_prop hk
    obtain ⟨h2, hk⟩ := hk
    replace hk := cond_prop hk
    obtain ⟨h3, hk⟩ := hk
    have := beqN h2; subst this
    simp only [Bool.and_eq_true, decide_eq_true_eq] at h3
    obtain ⟨z0, z1⟩ := h3
    refine ⟨_, OpSound.of_read rfl rfl ?_, OpR.ok_read rfl, fun q hq => by simp at hq, hk⟩
    intro ι N w a hp hop
    have hv := hop x _ mx hx
    obtain ⟨ey, _⟩ := val_int (hop y _ my hy)
    have hv' := hv
    obtain ⟨⟨A, c, e, hc, hcell⟩, _⟩ := hv
    obtain ⟨ad, rfl, _⟩ := hcell (by omega)
    injection e with e _
    refine ⟨_, run_indexAddr_sl ho e ey hu hkind z0 z1, ad, l.length, c, by rw [← e]; exact hv', by omega, by show 0 < 1; omega, ?_⟩
    rfl
   ·rename_i sz t xs
    replace hk := cond_prop hk
    obtain ⟨h2, hk⟩ := hk
    replace hk := cond_prop hk
    obtain ⟨h3, hk⟩ := hk
    have := beqN h2; subst this
    simp only [Bool.and_eq_true, decide_eq_true_eq] at h3
    obtain ⟨z0, z1⟩ := h3
    refine ⟨_, OpSound.of_read rfl rfl ?_, OpR.ok_read rfl, fun q hq => by simp at hq, hk⟩
    intro ι N w a hp hop
    have hv := hop x _ mx hx
    obtain ⟨ey, _⟩ := val_int (hop y _ my hy)
    have hv' := hv
    obtain ⟨ys, hl, A, c, e, hc, hcell⟩ := hv
    obtain ⟨ad, rfl, _⟩ := hcell (by omega)
    injection e with e _
    refine ⟨_, run_indexAddr_sl ho e ey hu hkind z0 z1, ad, xs.length, c, by rw [← e]; exact hv', by omega, by show 0 < sz; omega, ?_⟩
    rfl
   ·exact hk.elim
  ·exact hk.elim
 ·exact hk.elim
end
end Go.Ab
/- Operations that only yield a value: numbers, truths, texts, parts, comparisons. -/
namespace Go.Ab
open Go Go.Chr Go.RowKit
theorem wrap_has' (k : IntKind) (n : Int) : k.has (k.wrap n) := by
 unfold IntKind.has IntKind.wrap IntKind.min IntKind.max
 cases k <;> simp [IntKind.signed, IntKind.bits] <;> (try split) <;> omega
theorem wrap_has (k : IntKind) (n : Int) : okI k (k.wrap n) := fun _ => wrap_has' k n
theorem has_shr {k : IntKind} {x : Int} (h : okI k x) (n : Nat) : okI k (x.fdiv (2 ^ n)) := by
 intro hk
 replace h := h hk
 have hp : (0 : Int) < 2 ^ n := Int.pow_pos (by decide)
 rw [Int.fdiv_eq_ediv_of_nonneg _ (Int.le_of_lt hp)]
 obtain ⟨h1, h2⟩ := h
 have hmin : k.min ≤ 0 := by cases k <;> decide
 have hmax : 0 ≤ k.max := by cases k <;> decide
 constructor
 ·rcases Int.le_total 0 x with h | h
  ·exact Int.le_trans hmin (Int.ediv_nonneg h (Int.le_of_lt hp))
  ·refine Int.le_trans h1 ?_
   rw [Int.le_ediv_iff_mul_le hp]
   have hp1 : (1 : Int) ≤ 2 ^ n := hp
   have h3 := Int.mul_le_mul_of_nonpos_left h hp1
   simpa using h3
 ·rcases Int.le_total 0 x with h | h
  ·exact Int.le_trans (Int.ediv_le_self _ h) h2
  ·exact Int.le_trans (Int.ediv_nonpos_of_nonpos_of_neg' h hp) hmax
where
 Int.ediv_nonpos_of_nonpos_of_neg' {x p : Int} (h : x ≤ 0) (hp : 0 < p) : x / p ≤ 0 := by
  have : x / p < 1 := by rw [Int.ediv_lt_iff_lt_mul hp]; omega
  omega
theorem has_rem {k : IntKind} {x y : Int} (h : okI k x) (hy : okI k y) (h0 : y ≠ 0) : okI k (x.tmod y) := by
 intro hk
 replace h := h hk
 replace hy := hy hk
 obtain ⟨h1, h2⟩ := h
 obtain ⟨g1, g2⟩ := hy
 have hmin : k.min ≤ 0 := by cases k <;> decide
 have hmax : 0 ≤ k.max := by cases k <;> decide
 rcases Int.le_total 0 x with hx | hx
 ·have a := Int.tmod_nonneg y hx
  have b : x.tmod y ≤ x := by
   rw [Int.tmod_eq_emod_of_nonneg hx]
   rcases Int.le_total 0 y with hy | hy
   ·exact Int.emod_le_self hx y
   ·rw [← Int.emod_neg]; exact Int.emod_le_self hx (-y)
  exact ⟨Int.le_trans hmin a, Int.le_trans b h2⟩
 ·have a : 0 ≤ (-x).tmod y := Int.tmod_nonneg y (by omega)
  have b : (-x).tmod y ≤ -x := by
   rw [Int.tmod_eq_emod_of_nonneg (by omega)]
   rcases Int.le_total 0 y with hy | hy
   ·exact Int.emod_le_self (by omega) y
   ·rw [← Int.emod_neg]; exact Int.emod_le_self (by omega) (-y)
  rw [Int.neg_tmod] at a b
  exact ⟨by omega, by omega⟩
where
 Int.emod_le_self {x : Int} (h : 0 ≤ x) (y : Int) : x % y ≤ x := by
  rcases Int.lt_trichotomy y 0 with hy | hy | hy
  ·rw [← Int.emod_neg]
   have := Int.emod_le_self_pos h (y := -y) (by omega)
   exact this
  ·subst hy; simp
  ·exact Int.emod_le_self_pos h hy
 Int.emod_le_self_pos {x y : Int} (h : 0 ≤ x) (hy : 0 < y) : x % y ≤ x := by
  have h1 := Int.emod_add_mul_ediv x y
  have h2 := Int.mul_nonneg (Int.le_of_lt hy) (Int.ediv_nonneg h (Int.le_of_lt hy))
  omega
def iand (k : IntKind) (x y : Int) : Int := k.wrap (BitVec.ofInt k.bits x &&& BitVec.ofInt k.bits y).toNat
def ior (k : IntKind) (x y : Int) : Int := k.wrap (BitVec.ofInt k.bits x ||| BitVec.ofInt k.bits y).toNat
def ixor (k : IntKind) (x y : Int) : Int := k.wrap (BitVec.ofInt k.bits x ^^^ BitVec.ofInt k.bits y).toNat
def iandn (k : IntKind) (x y : Int) : Int := k.wrap (BitVec.ofInt k.bits x &&& ~~~(BitVec.ofInt k.bits y)).toNat
def ishl (k : IntKind) (x y : Int) : Int := k.wrap (x * 2 ^ (min y.toNat k.bits))
def ishr (k : IntKind) (x y : Int) : Int := x.fdiv (2 ^ (min y.toNat k.bits))
def bitB (op : BinOp) (k : IntKind) (x y : Int) : Option Int := match op with
 | .and => some (iand k x y)
 | .or => some (ior k x y)
 | .xor => some (ixor k x y)
 | .andNot => some (iandn k x y)
 | _ => none
def cmpB (op : BinOp) (x y : Int) : Option Bool := match op with
 | .eql => some (x == y)
 | .neq => some (x != y)
 | .lss => some (decide (x < y))
 | .leq => some (decide (x ≤ y))
 | .gtr => some (decide (x > y))
 | .geq => some (decide (x ≥ y))
 | _ => none
def aArith (op : BinOp) (k : IntKind) (x y : Int) (f : CV → Prop) : Prop := match op with
 | .add => f (.int k (k.wrap (x + y)))
 | .sub => f (.int k (k.wrap (x - y)))
 | .mul => f (.int k (k.wrap (x * y)))
 | .quo => cond (decide (y = 0)) False (f (.int k (k.wrap (x.tdiv y))))
 | .rem => cond (decide (y = 0)) False (f (.int k (x.tmod y)))
 | op => match bitB op k x y with
  | some z => f (.int k z)
  | none => match cmpB op x y with
   | some b => f (.bool b)
   | none => False
def aInt (op : BinOp) (k : IntKind) (x : Int) (yk : IntKind) (y : Int) (f : CV → Prop) : Prop := match op with
 | .shl => cond (!yk.signed || decide (0 ≤ y)) (f (.int k (ishl k x y))) False
 | .shr => cond (!yk.signed || decide (0 ≤ y)) (f (.int k (ishr k x y))) False
 | op => cond (decide (k = yk)) (aArith op k x y f) False
section
variable {C : Ctx} {ι : Nat → Option Loc} {N : Nat → Prop} {w : World} {nx : Nat} {r : OpR} {o : Oper} {ρ : Operand → Option AV}
theorem run_bin {a : Act} {op : BinOp} {t ty : TypeId} {x y : Operand} (ho : o.op = .binOp op t x y ty) {v : Value} (hg : (eqGuard op t x y (a.eval x) (a.eval y)).run C.P w = .ok () w) (hr : (binOp op t (a.eval x) (a.eval y)).run C.P w = .ok v w) :
  (execOp a.eval o).run C.P w = .ok (.value v) w := by
 unfold execOp
 simp [ho, hg, hr]
theorem guard_int {op : BinOp} {t : TypeId} {x y : Operand} {k k' : IntKind} {a b : Int} (P : Program) (w : World) : (eqGuard op t x y (.int k a) (.int k' b)).run P w = .ok () w := by
 unfold eqGuard; cases op <;> simp
theorem cond_false_prop {b : Bool} {p : Prop} (h : cond b False p) : b = false ∧ p := by
 cases b
 ·exact ⟨rfl, h⟩
 ·exact h.elim
def CV.rel1 (c : CV) (v : Value) : Prop := match c with
 | .int k n => v = .int k n ∧ okI k n
 | .bool b => v = .bool b
 | _ => False
theorem rel1_val {c : CV} {v : Value} (h : c.rel1 v) : (AV.c c).val ι N w v := by
 cases c <;> first | (obtain ⟨rfl, h⟩ := h; exact ⟨rfl, h⟩) | (cases h; rfl) | exact h.elim
theorem aArith_run {op : BinOp} {t : TypeId} {k : IntKind} {x y : Int} {f : CV → Prop} (h : aArith op k x y f) :
  ∃ c, f c ∧ ∀ (_ : okI k x) (_ : okI k y) (P : Program) (w : World), ∃ v, (binOp op t (.int k x) (.int k y)).run P w = .ok v w ∧ c.rel1 v := by
 unfold aArith at h
 split at h
 ·exact ⟨_, h, fun hx hy P w => ⟨_, by simp [binOp, Op.intArith], rfl, wrap_has _ _⟩⟩
 ·exact ⟨_, h, fun hx hy P w => ⟨_, by simp [binOp, Op.intArith], rfl, wrap_has _ _⟩⟩
 ·exact ⟨_, h, fun hx hy P w => ⟨_, by simp [binOp, Op.intArith], rfl, wrap_has _ _⟩⟩
 ·replace h := cond_false_prop h
  have h0 : ¬ y = 0 := by simpa using h.1
  exact ⟨_, h.2, fun hx hy P w => ⟨_, by simp [binOp, Op.intDiv, h0], rfl, wrap_has _ _⟩⟩
 ·replace h := cond_false_prop h
  have h0 : ¬ y = 0 := by simpa using h.1
  exact ⟨_, h.2, fun hx hy P w => ⟨_, by simp [binOp, Op.intDiv, h0], rfl, has_rem hx hy h0⟩⟩
 ·split at h
  ·rename_i z hz
   refine ⟨_, h, fun hx hy P w => ?_⟩
   unfold bitB at hz
   split at hz <;> first | (injection hz with hz; subst hz; exact ⟨.int k _, by simp only [iand, ior, ixor, iandn]; simp [binOp, Op.intBits], rfl, wrap_has _ _⟩) | cases hz
  ·split at h
   ·rename_i b hb
    refine ⟨_, h, fun hx hy P w => ?_⟩
    unfold cmpB at hb
    split at hb <;> first | (injection hb with hb; subst hb; exact ⟨_, by simp [binOp, Op.intCmp], rfl⟩) | cases hb
   ·exact h.elim
theorem amount_ok {yk : IntKind} {y : Int} (hy : okI yk y) (h : (!yk.signed || decide (0 ≤ y)) = true) : ¬ y < 0 := by
 simp only [Bool.or_eq_true, Bool.not_eq_true', decide_eq_true_eq] at h
 rcases h with h | h
 ·have := (hy (by rintro rfl; cases h)).1; rw [IntKind.min, h] at this; simp at this; omega
 ·omega
theorem aInt_run {op : BinOp} {t : TypeId} {k yk : IntKind} {x y : Int} {f : CV → Prop} (h : aInt op k x yk y f) :
  ∃ c, f c ∧ ∀ (_ : okI k x) (_ : okI yk y) (P : Program) (w : World), ∃ v, (binOp op t (.int k x) (.int yk y)).run P w = .ok v w ∧ c.rel1 v := by
 unfold aInt at h
 split at h
 ·replace h := cond_prop h
  exact ⟨_, h.2, fun hx hy P w => ⟨.int k (ishl k x y), by have h0 := amount_ok hy h.1; simp [binOp, Op.shift, h0, ishl], rfl, wrap_has _ _⟩⟩
 ·replace h := cond_prop h
  exact ⟨_, h.2, fun hx hy P w => ⟨.int k (ishr k x y), by have h0 := amount_ok hy h.1; simp [binOp, Op.shift, h0, ishr], rfl, has_shr hx _⟩⟩
 ·replace h := cond_prop h
  obtain ⟨h1, h⟩ := h
  have := of_decide_eq_true h1; subst this
  exact aArith_run h
def loadC (v : CV) (off : Nat) (agg : Bool) (size : Nat) : Option CV := match subC v off size with
 | none => none
 | some u => match agg, u.isAgg with
  | true, true => some u
  | true, false => some (.pr u .nl)
  | false, false => some u
  | false, true => none
theorem loadC_rel {v : CV} {off size : Nat} {agg : Bool} {u : CV} {cells : List Value} (hv : v.rel N w cells) (hle : off + size ≤ v.size) (h : loadC v off agg size = some u) :
  u.isAgg = agg ∧ u.rel N w ((cells.drop off).take size) := by
 unfold loadC at h
 split at h
 ·cases h
 ·rename_i x hx
  have hr := subC_rel hv hle hx
  split at h
  ·rename_i ha; injection h with h; subst h; exact ⟨ha, hr⟩
  ·rename_i ha; injection h with h; subst h; exact ⟨rfl, _, [], by simp, hr, rfl⟩
  ·rename_i ha; injection h with h; subst h; exact ⟨ha, hr⟩
  ·cases h
def partC (C : Ctx) (v : CV) (t : TypeId) (off : Nat) : Option CV := match kindOf C t with
 | some (agg, size) => bif Nat.ble (off + size) v.size && (agg || Nat.beq size 1) then loadC v off agg size else none
 | none => none
theorem partC_run {v : CV} {t : TypeId} {off : Nat} {u : CV} {cells : List Value} (hv : v.rel N w cells) (h : partC C v t off = some u) :
  ∃ x, (∀ W, (part t cells.toArray off).run C.P W = .ok x W) ∧ asVal u.isAgg (u.rel N w) x := by
 unfold partC at h
 split at h
 ·rename_i agg size hk
  cases hb : Nat.ble (off + size) v.size && (agg || Nat.beq size 1) with
  | false => rw [hb] at h; cases h
  | true =>
   rw [hb] at h
   simp only [Bool.and_eq_true, Bool.or_eq_true] at hb
   obtain ⟨h1, h2⟩ := hb
   have h1 := bleN h1
   obtain ⟨ha, hr⟩ := loadC_rel hv h1 h
   obtain ⟨d, i, hu, hi, hd, hs⟩ := kindOf_eq hk
   have hl := hv.len
   have hagg : ∀ W, (isAgg t).run C.P W = .ok agg W := by
    intro W
    unfold isAgg
    rw [Sem.run_bind, run_underlying hu W]
    subst hd
    cases d <;> rfl
   rw [ha]
   cases agg with
   | true =>
    refine ⟨_, fun W => ?_, _, rfl, hr⟩
    simp [part, hagg, sizeOf, typeInfo, hi, hs]
   | false =>
    have hsz : size = 1 := by
     rcases h2 with h2 | h2
     ·cases h2
     ·exact beqN h2
    rw [hsz] at hr h1
    have hlt : off < cells.length := by omega
    rw [List.drop_eq_getElem_cons hlt, List.take_succ_cons, List.take_zero] at hr
    refine ⟨cells[off], fun W => ?_, hr⟩
    simp [part, hagg, hlt]
 ·cases h
def eqAll (p : TypeId → CV → CV → Option Bool) (C : Ctx) (a b : CV) : List (TypeId × Nat) → Option Bool
 | [] => some true
 | (t, off) :: l => match partC C a t off, partC C b t off with
  | some x, some y => match p t x y with
   | some e => match l with
    | [] => some e
    | l => (eqAll p C a b l).map (e && ·)
   | none => none
  | _, _ => none
def eqV (C : Ctx) : Nat → TypeId → CV → CV → Option Bool
 | 0, _, _, _ => none
 | f + 1, t, a, b => match C.P.underlying t with
  | some (.struct fs) => bif (!C.P.stoodInHeld t && fs.all (·.name != "_")) && (a.isAgg && b.isAgg) then eqAll (eqV C f) C a b (fs.toList.map fun x => (x.type, x.offset)) else none
  | some (.array n e) => bif a.isAgg && b.isAgg then (match C.P.underlying e, a, b with
   | some (.int _), .nat _ x, .nat _ y => bif Nat.beq n 4 && Nat.beq (C.P.cellsOf e) 1 then some (Nat.beq x y) else none
   | some (.int _), .arr k m l, .arr k' m' l' => bif (Nat.beq m n && Nat.beq m' n) && (decide (k = k') && Nat.beq (C.P.cellsOf e) 1) then some (l == l') else none
   | _, a, b => match C.P.info? e with
    | some _ => eqAll (eqV C f) C a b ((List.range n).map fun i => (e, i * C.P.cellsOf e))
    | none => none) else none
  | some (.int _) => match a, b with
   | .int k x, .int k' y => bif decide (k = k') then some (x == y) else none
   | _, _ => none
  | some .bool => match a, b with
   | .bool x, .bool y => some (x == y)
   | _, _ => none
  | some .string => match a, b with
   | .str x, .str y => some (x == y)
   | _, _ => none
  | _ => none
def EqRun (C : Ctx) (N : Nat → Prop) (w : World) (d : Nat) (p : TypeId → CV → CV → Option Bool) : Prop :=
 ∀ t a b e xa xb, p t a b = some e → asVal a.isAgg (a.rel N w) xa → asVal b.isAgg (b.rel N w) xb → ∀ W, (Op.equalIn d t xa xb).run C.P W = .ok e W
theorem eqAll_cons {p : TypeId → CV → CV → Option Bool} {a b : CV} {t : TypeId} {off : Nat} {l : List (TypeId × Nat)} {r : Bool} (h : eqAll p C a b ((t, off) :: l) = some r) :
  ∃ x y e r', partC C a t off = some x ∧ partC C b t off = some y ∧ p t x y = some e ∧ eqAll p C a b l = some r' ∧ r = (e && r') := by
 unfold eqAll at h
 split at h
 ·rename_i x y hx hy
  split at h
  ·rename_i e he
   split at h
   ·injection h with h; subst h
    exact ⟨x, y, e, true, hx, hy, he, rfl, by simp⟩
   ·simp only [Option.map_eq_some_iff] at h
    obtain ⟨r', hr, rfl⟩ := h
    exact ⟨x, y, e, r', hx, hy, he, hr, rfl⟩
  ·cases h
 ·cases h
theorem eqFields_run {p : TypeId → CV → CV → Option Bool} {d : Nat} (hp : EqRun C N w d p) {a b : CV} {xs ys : List Value} (ha : a.rel N w xs) (hb : b.rel N w ys) :
  ∀ (fs : List Field) (r : Bool), (∀ f ∈ fs, f.name ≠ "_") → eqAll p C a b (fs.map fun x => (x.type, x.offset)) = some r → ∀ W, (Op.eqFields d xs.toArray ys.toArray fs).run C.P W = .ok r W
 | [], r, _, h, W => by injection h with h; subst h; simp [Op.eqFields]
 | f :: fs, r, hn, h, W => by
  obtain ⟨x, y, e, r', hx, hy, he, hr, rfl⟩ := eqAll_cons h
  obtain ⟨vx, rx, gx⟩ := partC_run ha hx
  obtain ⟨vy, ry, gy⟩ := partC_run hb hy
  have h1 := hp _ _ _ _ _ _ he gx gy
  have ih := eqFields_run hp ha hb fs r' (fun f hf => hn f (List.mem_cons_of_mem _ hf)) hr W
  have hname : f.name ≠ "_" := hn f (by simp)
  unfold Op.eqFields
  rw [if_pos hname]
  simp only [Sem.run_bind, rx W, ry W, h1 W, Result.andThen_ok]
  cases e <;> simp [ih]
theorem eqItems_run {p : TypeId → CV → CV → Option Bool} {d : Nat} (hp : EqRun C N w d p) {a b : CV} {xs ys : List Value} (ha : a.rel N w xs) (hb : b.rel N w ys) (t : TypeId) (c : Nat) :
  ∀ (is : List Nat) (r : Bool), eqAll p C a b (is.map fun i => (t, i * c)) = some r → ∀ W, (Op.eqItems d t c xs.toArray ys.toArray is).run C.P W = .ok r W
 | [], r, h, W => by injection h with h; subst h; simp [Op.eqItems]
 | i :: is, r, h, W => by
  obtain ⟨x, y, e, r', hx, hy, he, hr, rfl⟩ := eqAll_cons h
  obtain ⟨vx, rx, gx⟩ := partC_run ha hx
  obtain ⟨vy, ry, gy⟩ := partC_run hb hy
  have h1 := hp _ _ _ _ _ _ he gx gy
  have ih := eqItems_run hp ha hb t c is r' hr W
  unfold Op.eqItems
  simp only [Sem.run_bind, rx W, ry W, h1 W, Result.andThen_ok]
  cases e <;> simp [ih]
theorem part_int {e : TypeId} {k0 : IntKind} (hu : C.P.underlying e = some (.int k0)) {k : IntKind} {l : List Int} {i : Nat} (hi : i < l.length) (W : World) :
  (part e (l.map (Value.int k)).toArray i).run C.P W = .ok (.int k l[i]) W := by
 have hagg : (isAgg e).run C.P W = .ok false W := by
  unfold isAgg
  rw [Sem.run_bind, run_underlying hu W]; rfl
 simp [part, hagg, hi]
theorem eqItems_int {e : TypeId} {k0 : IntKind} (hu : C.P.underlying e = some (.int k0)) {d : Nat} {k : IntKind} : ∀ (n : Nat) (l l' : List Int) (i : Nat), i + n = l.length → i + n = l'.length → ∀ W,
  (Op.eqItems (d + 1) e 1 (l.map (Value.int k)).toArray (l'.map (Value.int k)).toArray (List.range' i n)).run C.P W = .ok (l.drop i == l'.drop i) W
 | 0, l, l', i, h1, h2, W => by
  rw [List.drop_eq_nil_of_le (by omega), List.drop_eq_nil_of_le (by omega)]
  simp [Op.eqItems]
 | n + 1, l, l', i, h1, h2, W => by
  have ih := eqItems_int hu (d := d) (k := k) n l l' (i + 1) (by omega) (by omega) W
  rw [List.range'_succ, List.drop_eq_getElem_cons (show i < l.length by omega), List.drop_eq_getElem_cons (show i < l'.length by omega)]
  unfold Op.eqItems
  simp only [Nat.mul_one, Sem.run_bind, part_int hu (show i < l.length by omega), part_int hu (show i < l'.length by omega), Result.andThen_ok, run_equalIn_int W d e k k0 _ _ hu]
  rw [List.cons_beq_cons]
  cases he : l[i] == l'[i]
  ·rfl
  ·simp only [Bool.true_and, ← ih]
   rfl
theorem natL_inj {x y : Nat} (hx : x < two256) (hy : y < two256) : (natL x == natL y) = Nat.beq x y := by
 by_cases h : x = y
 ·subst h; simp
 ·rw [beqF h]
  simp only [beq_eq_false_iff_ne, ne_eq]
  intro he
  unfold natL at he
  injection he with h0 he; injection he with h1 he; injection he with h2 he; injection he with h3 he
  exact h (lb_inj hx hy h0 h1 h2 h3)
theorem bytesOf_inj {a b : ByteArray} (h : bytesOf a = bytesOf b) : a = b := by
 obtain ⟨⟨x⟩⟩ := a
 obtain ⟨⟨y⟩⟩ := b
 have h : x.map (fun b => (b.toNat : Int)) = y.map (fun b => (b.toNat : Int)) := h
 have : x = y := List.map_inj_right (fun p q hpq => by
  have : p.toNat = q.toNat := by omega
  exact UInt8.toNat.inj this) |>.1 h
 rw [this]
theorem beq_bytes (a b : ByteArray) : (a.toList == b.toList) = (bytesOf a == bytesOf b) := by
 rw [ByteArray.toList_eq, ByteArray.toList_eq]
 by_cases h : a = b
 ·subst h; simp
 ·have h1 : ¬ bytesOf a = bytesOf b := fun e => h (bytesOf_inj e)
  have h2 : ¬ a.data.toList = b.data.toList := fun e => h1 (by unfold bytesOf; rw [e])
  rw [show (bytesOf a == bytesOf b) = false by simpa using h1, show (a.data.toList == b.data.toList) = false from beq_false_of_ne h2]
theorem eqV_run (N : Nat → Prop) (w : World) (d : Nat) : ∀ f, EqRun C N w (d + f + 1) (eqV C f)
 | 0 => fun _ _ _ _ _ _ h => by cases h
 | f + 1 => by
  intro t a b r xa xb h ha hb W
  have ih := eqV_run N w d f
  unfold eqV at h
  rw [show d + (f + 1) + 1 = (d + f + 1) + 1 by omega]
  split at h
  ·rename_i fs hu
   cases hc : (!C.P.stoodInHeld t && fs.all (·.name != "_")) && (a.isAgg && b.isAgg) with
   | false => rw [hc] at h; cases h
   | true =>
    rw [hc] at h
    simp only [Bool.and_eq_true, Bool.not_eq_true'] at hc
    obtain ⟨⟨c1, c2⟩, c3, c4⟩ := hc
    rw [c3] at ha; rw [c4] at hb
    obtain ⟨xs, rfl, ha⟩ := ha
    obtain ⟨ys, rfl, hb⟩ := hb
    have hf : C.P.fieldsOf t = fs := by unfold Program.fieldsOf; rw [hu]
    rw [run_equalIn_struct W (d + f + 1) t _ _ (by rw [hu, hf]) c1, hf]
    exact eqFields_run ih ha hb fs.toList r (fun x hx => by
     rw [Array.all_eq_true'] at c2
     simpa using c2 x (by simpa using hx)) h W
  ·rename_i n e hu
   cases hc : a.isAgg && b.isAgg with
   | false => rw [hc] at h; cases h
   | true =>
    rw [hc] at h
    simp only [cond_true] at h
    simp only [Bool.and_eq_true] at hc
    obtain ⟨c3, c4⟩ := hc
    rw [c3] at ha; rw [c4] at hb
    obtain ⟨xs, rfl, ha⟩ := ha
    obtain ⟨ys, rfl, hb⟩ := hb
    split at h
    ·rename_i k0 m1 x m2 y hue
     cases hq : Nat.beq n 4 && Nat.beq (C.P.cellsOf e) 1 with
     | false => rw [hq] at h; cases h
     | true =>
      rw [hq] at h
      injection h with h; subst h
      simp only [Bool.and_eq_true] at hq
      have := beqN hq.1; subst this
      obtain ⟨rfl, hx⟩ := ha
      obtain ⟨rfl, hy⟩ := hb
      obtain ⟨i, hi⟩ : ∃ i, C.P.info? e = some i := by
       cases hi : C.P.info? e with
       | none => rw [Program.cellsOf, hi] at hq; cases hq.2
       | some i => exact ⟨i, rfl⟩
      rw [run_equalIn_array W (d + f + 1) _ _ hu hi, beqN hq.2, List.range_eq_range']
      have := eqItems_int hue (d := d + f) (k := .u64) 4 (natL x) (natL y) 0 rfl rfl W
      rw [this, List.drop_zero, List.drop_zero, natL_inj (Nat.lt_of_lt_of_le hx.1 hx.2) (Nat.lt_of_lt_of_le hy.1 hy.2)]
    ·rename_i k0 k m l k' m' l' hue
     cases hq : (Nat.beq m n && Nat.beq m' n) && (decide (k = k') && Nat.beq (C.P.cellsOf e) 1) with
     | false => rw [hq] at h; cases h
     | true =>
      rw [hq] at h
      injection h with h; subst h
      simp only [Bool.and_eq_true, decide_eq_true_eq] at hq
      obtain ⟨⟨q1, q2⟩, rfl, q3⟩ := hq
      have q1 := beqN q1
      have q2 := beqN q2
      obtain ⟨rfl, hl, _⟩ := ha
      obtain ⟨rfl, hl', _⟩ := hb
      obtain ⟨i, hi⟩ : ∃ i, C.P.info? e = some i := by
       cases hi : C.P.info? e with
       | none => rw [Program.cellsOf, hi] at q3; cases q3
       | some i => exact ⟨i, rfl⟩
      rw [run_equalIn_array W (d + f + 1) _ _ hu hi, beqN q3, List.range_eq_range']
      have := eqItems_int hue (d := d + f) (k := k) n l l' 0 (by omega) (by omega) W
      rw [this, List.drop_zero, List.drop_zero]
    ·split at h
     ·rename_i i hi
      rw [run_equalIn_array W (d + f + 1) _ _ hu hi]
      exact eqItems_run ih ha hb e _ _ r h W
     ·cases h
  ·rename_i k0 hu
   split at h
   ·rename_i k x k' y
    cases hq : decide (k = k') with
    | false => rw [hq] at h; cases h
    | true =>
     rw [hq] at h
     injection h with h; subst h
     have := of_decide_eq_true hq; subst this
     obtain ⟨e1, _⟩ : [xa] = [Value.int k x] ∧ _ := ha
     obtain ⟨e2, _⟩ : [xb] = [Value.int k y] ∧ _ := hb
     injection e1 with e1; injection e2 with e2
     subst e1; subst e2
     rw [run_equalIn_int W (d + f + 1) t k k0 _ _ hu]
   ·cases h
  ·rename_i hu
   split at h
   ·rename_i x y
    injection h with h; subst h
    have e1 : [xa] = [Value.bool x] := ha
    have e2 : [xb] = [Value.bool y] := hb
    injection e1 with e1; injection e2 with e2
    subst e1; subst e2
    rw [run_equalIn_bool' W (d + f + 1) t _ _ hu]
   ·cases h
  ·rename_i hu
   split at h
   ·rename_i x y
    injection h with h; subst h
    obtain ⟨s1, e1, rfl⟩ : ∃ s, [xa] = [Value.string s] ∧ x = bytesOf s := ha
    obtain ⟨s2, e2, rfl⟩ : ∃ s, [xb] = [Value.string s] ∧ y = bytesOf s := hb
    injection e1 with e1; injection e2 with e2
    subst e1; subst e2
    rw [run_equalIn_string W (d + f + 1) t _ _ hu, beq_bytes]
   ·cases h
  ·cases h
end
end Go.Ab
/- Operations: all in one. Calls. -/
namespace Go.Ab
open Go Go.Chr Go.RowKit
def valsRel (ι : Nat → Option Loc) (N : Nat → Prop) (w : World) : List AV → List Value → Prop
 | [], vs => vs = []
 | a :: as, vs => ∃ v vs', vs = v :: vs' ∧ a.val ι N w v ∧ valsRel ι N w as vs'
def CallSound (C : Ctx) (f : FuncId) (args : List AV) (nx : Nat) (r : OpR) : Prop :=
 ∀ (ι : Nat → Option Loc) (N : Nat → Prop) (w : World) (vs : List Value), Pre C ι N w nx r → valsRel ι N w args vs →
  Calls C.P f vs.toArray w fun e w' => ∃ v, e = .returned v ∧ ∃ ι' N', Post ι N w ι' N' w' nx r ∧ r.val.val ι' N' w' v
def CallOuts (P : Program) (f : FuncId) (vs : List Value) (w : World) (R : Value → World → Prop) : Prop :=
 match (callFunc f vs.toArray).run P w with
 | .ok (.value u) w' => R u w'
 | .ok (.enter g args) w' => Calls P g args w' fun e w'' => match e with
   | .returned u => R u w''
   | _ => False
 | _ => False
def CallFits (C : Ctx) (f : FuncId) (args : List AV) (nx : Nat) (r : OpR) : Prop :=
 ∀ (ι : Nat → Option Loc) (N : Nat → Prop) (w : World) (vs : List Value), Pre C ι N w nx r → valsRel ι N w args vs →
  CallOuts C.P f vs w fun v w' => ∃ ι' N', Post ι N w ι' N' w' nx r ∧ r.val.val ι' N' w' v
structure ContractOk (C : Ctx) (f : FuncId) (F : Contract) : Prop where
 ok : ∀ args h nx k, F args h nx k → ∃ r, CallFits C f args nx r ∧ r.Ok ∧ (∀ q ∈ r.rds, getK h q.1 = some q.2) ∧ k r
abbrev Tab := List (Nat × Contract)
def TabOk (C : Ctx) (Γ : Tab) : Prop := ∀ f F, getK Γ f = some F → ContractOk C f F
def isNil : Value → Bool
 | .pointer none => true
 | _ => false
def isSome' : AV → Bool
 | .ptr _ _ _ _ => true
 | .cp _ _ _ => true
 | _ => false
def isNilA : AV → Bool
 | .c (.raw v) => isNil v
 | _ => false
def eqNil (op : BinOp) (b : Bool) : Option Bool := match op with
 | .eql => some b
 | .neq => some (!b)
 | _ => none
def aBin (C : Ctx) (op : BinOp) (t : TypeId) (a b : AV) (k : OpR → Prop) : Prop :=
 let K := fun c : CV => k ⟨.c c, [], [], []⟩
 match a, b with
 | .c (.int ka x), .c (.int kb y) => aInt op ka x kb y K
 | .c (.bool x), .c (.bool y) => match C.P.underlying t, eqNil op (x == y) with
  | some .bool, some e => K (.bool e)
  | _, _ => False
 | .c (.str x), .c (.str y) => match op with
  | .add => cond (decide ((x.length : Int) + (y.length : Int) ≤ 9223372036854775807)) (K (.str (x ++ y))) False
  | op => match eqNil op (x == y) with
   | some e => K (.bool e)
   | none => False
 | a, b => bif isNilA b && (isSome' a || isNilA a) then (match C.P.underlying t, eqNil op (isNilA a) with
   | some (.pointer _), some e => K (.bool e)
   | _, _ => False)
  else match a, b with
   | .c x, .c y => match eqV C 8 t x y with
    | some e => match eqNil op e with
     | some e => cond ((x.isAgg && y.isAgg) && !C.P.eqGuardType C.P.depth t) (K (.bool e)) False
     | none => False
    | none => False
   | _, _ => False
section
variable {C : Ctx} {ι : Nat → Option Loc} {N : Nat → Prop} {w : World} {nx : Nat} {r : OpR} {o : Oper} {ρ : Operand → Option AV}
theorem read_out {h : Heap} {v : AV} {k : OpR → Prop} (hk : k ⟨v, [], [], []⟩)
  (hr : ∀ (ι : Nat → Option Loc) (N : Nat → Prop) (w : World) (a : Act), Env C N w → (∀ x v, x ∈ o.op.operands → ρ x = some v → v.val ι N w (a.eval x)) → ∃ u, (execOp a.eval o).run C.P w = .ok (.value u) w ∧ v.val ι N w u) :
  ∃ r, OpSound C nx o ρ r ∧ r.Ok ∧ (∀ q ∈ r.rds, getK h q.1 = some q.2) ∧ k r :=
 ⟨_, OpSound.of_read rfl rfl fun ι N w a hp hop => hr ι N w a hp.env hop, OpR.ok_read rfl, fun q hq => by simp at hq, hk⟩
theorem val_bool' {b : Bool} {v : Value} (h : (AV.c (.bool b)).val ι N w v) : v = .bool b := by
 have h : [v] = [Value.bool b] := h
 injection h
theorem val_str {l : List Int} {v : Value} (h : (AV.c (.str l)).val ι N w v) : ∃ s, v = .string s ∧ l = bytesOf s := by
 obtain ⟨s, e, h⟩ : ∃ s, [v] = [Value.string s] ∧ l = bytesOf s := h
 injection e with e
 exact ⟨s, e, h⟩
theorem val_nil {a : AV} (ha : isNilA a = true) {v : Value} (h : a.val ι N w v) : v = .pointer none := by
 unfold isNilA at ha
 split at ha
 ·rename_i u
  obtain ⟨e, _⟩ : [v] = [u] ∧ _ := h
  injection e with e; subst e
  unfold isNil at ha
  split at ha
  ·rfl
  ·cases ha
 ·cases ha
theorem val_some {a : AV} (ha : isSome' a = true) {v : Value} (h : a.val ι N w v) : ∃ ad, v = .pointer (some ad) := by
 unfold isSome' at ha
 split at ha
 ·obtain ⟨L, _, _, _, e⟩ := h
  injection e with e
  exact ⟨_, e⟩
 ·obtain ⟨ad, n, c, _, _, _, e⟩ := h
  injection e with e
  exact ⟨_, e⟩
 ·cases ha
theorem eqNil_cases {op : BinOp} {b e : Bool} (h : eqNil op b = some e) : (op = .eql ∧ e = b) ∨ (op = .neq ∧ e = !b) := by
 unfold eqNil at h
 split at h
 ·injection h with h; exact .inl ⟨rfl, h.symm⟩
 ·injection h with h; exact .inr ⟨rfl, h.symm⟩
 ·cases h
theorem size_bytes (s : ByteArray) : (bytesOf s).length = s.size := by
 unfold bytesOf; rw [List.length_map, Array.length_toList]; rfl
theorem bytes_append (s t : ByteArray) : bytesOf (s ++ t) = bytesOf s ++ bytesOf t := by
 unfold bytesOf
 rw [← List.map_append]
 congr 1
theorem guard_bool {op : BinOp} {t : TypeId} {x y : Operand} {a b : Bool} (P : Program) (w : World) : (eqGuard op t x y (.bool a) (.bool b)).run P w = .ok () w := by
 unfold eqGuard; cases op <;> simp
theorem guard_str {op : BinOp} {t : TypeId} {x y : Operand} {a b : ByteArray} (P : Program) (w : World) : (eqGuard op t x y (.string a) (.string b)).run P w = .ok () w := by
 unfold eqGuard; cases op <;> simp
theorem guard_ptr {op : BinOp} {t : TypeId} {x y : Operand} {a b : Option Addr} (P : Program) (w : World) : (eqGuard op t x y (.pointer a) (.pointer b)).run P w = .ok () w := by
 unfold eqGuard; cases op <;> simp
theorem sound_bin {h : Heap} {op : BinOp} {t ty : TypeId} {x y : Operand} (ho : o.op = .binOp op t x y ty) {a b : AV} (hx : ρ x = some a) (hy : ρ y = some b) {k : OpR → Prop} (hk : aBin C op t a b k) :
  ∃ r, OpSound C nx o ρ r ∧ r.Ok ∧ (∀ q ∈ r.rds, getK h q.1 = some q.2) ∧ k r := by
 have mx : x ∈ o.op.operands := by rw [ho]; simp [Op.operands]
 have my : y ∈ o.op.operands := by rw [ho]; simp [Op.operands]
 unfold aBin at hk
 simp only at hk
 split at hk
 ·rename_i ka x' kb y'
  obtain ⟨c, hc, hrun⟩ := aInt_run (t := t) hk
  refine read_out hc ?_
  intro ι N w act henv hop
  obtain ⟨e1, o1⟩ := val_int (hop x _ mx hx)
  obtain ⟨e2, o2⟩ := val_int (hop y _ my hy)
  obtain ⟨v, hv, hr⟩ := hrun o1 o2 C.P w
  exact ⟨v, run_bin ho (by rw [e1, e2]; exact guard_int _ _) (by rw [e1, e2]; exact hv), rel1_val hr⟩
 ·rename_i x' y'
  split at hk
  ·rename_i e hu he
   refine read_out hk ?_
   intro ι N w act henv hop
   have e1 := val_bool' (hop x _ mx hx)
   have e2 := val_bool' (hop y _ my hy)
   refine ⟨.bool e, run_bin ho (by rw [e1, e2]; exact guard_bool _ _) ?_, rfl⟩
   rw [e1, e2]
   rcases eqNil_cases he with ⟨rfl, rfl⟩ | ⟨rfl, rfl⟩ <;> simp [binOp, run_equal_bool w t x' y' hu]
  ·exact hk.elim
 ·rename_i x' y'
  split at hk
  ·replace hk := cond_prop hk
   obtain ⟨h1, hk⟩ := hk
   have h1 := of_decide_eq_true h1
   refine read_out hk ?_
   intro ι N w act henv hop
   obtain ⟨s1, e1, rfl⟩ := val_str (hop x _ mx hx)
   obtain ⟨s2, e2, rfl⟩ := val_str (hop y _ my hy)
   rw [size_bytes, size_bytes] at h1
   refine ⟨.string (s1 ++ s2), run_bin ho (by rw [e1, e2]; exact guard_str _ _) ?_, s1 ++ s2, rfl, (bytes_append _ _).symm⟩
   rw [e1, e2]
   have h2 : ¬ (IntKind.i64.max < (s1.size : Int) + (s2.size : Int)) := by
    show ¬ ((9223372036854775807 : Int) < _); omega
   simp [binOp, Op.stringOp, h2]
   omega
  ·split at hk
   ·rename_i e he
    refine read_out hk ?_
    intro ι N w act henv hop
    obtain ⟨s1, e1, rfl⟩ := val_str (hop x _ mx hx)
    obtain ⟨s2, e2, rfl⟩ := val_str (hop y _ my hy)
    refine ⟨.bool e, run_bin ho (by rw [e1, e2]; exact guard_str _ _) ?_, rfl⟩
    rw [e1, e2]
    rcases eqNil_cases he with ⟨rfl, rfl⟩ | ⟨rfl, rfl⟩ <;> simp [binOp, Op.stringOp, beq_bytes]
   ·exact hk.elim
 ·cases hc : isNilA b && (isSome' a || isNilA a) with
  | true =>
   rw [hc] at hk
   simp only [cond_true] at hk
   simp only [Bool.and_eq_true, Bool.or_eq_true] at hc
   obtain ⟨hb, ha⟩ := hc
   split at hk
   ·rename_i el e hu he
    refine read_out hk ?_
    intro ι N w act henv hop
    have hut : C.P.underlying t = some (.pointer (C.P.pointee t)) := by
     unfold Program.pointee; rw [hu]
    have e2 := val_nil hb (hop y _ my hy)
    have v1 := hop x _ mx hx
    obtain ⟨p, e1, hp⟩ : ∃ p, act.eval x = .pointer p ∧ isNilA a = p.isNone := by
     rcases ha with ha | ha
     ·obtain ⟨ad, e1⟩ := val_some ha v1
      refine ⟨some ad, e1, ?_⟩
      cases a <;> first | rfl | cases ha
     ·exact ⟨none, val_nil ha v1, ha⟩
    refine ⟨.bool e, run_bin ho (by rw [e1, e2]; exact guard_ptr _ _) ?_, rfl⟩
    rw [e1, e2]
    rcases eqNil_cases he with ⟨rfl, rfl⟩ | ⟨rfl, rfl⟩
    ·rw [run_eql_pointer_nil w t p hut, hp]
    ·rw [run_neq_pointer_nil w t p hut, hp]
   ·exact hk.elim
  | false =>
   rw [hc] at hk
   simp only [cond_false] at hk
   split at hk
   ·rename_i x' y' _ _ _
    split at hk
    ·rename_i e he
     split at hk
     ·rename_i e' he'
      replace hk := cond_prop hk
      obtain ⟨h1, hk⟩ := hk
      simp only [Bool.and_eq_true, Bool.not_eq_true'] at h1
      obtain ⟨⟨hax, hay⟩, hg⟩ := h1
      refine read_out hk ?_
      intro ι N w act henv hop
      have v1 : asVal x'.isAgg (x'.rel N w) (act.eval x) := hop x _ mx hx
      have v2 : asVal y'.isAgg (y'.rel N w) (act.eval y) := hop y _ my hy
      have hrun := eqV_run N w 9991 8 t x' y' e _ _ he v1 v2 w
      rw [hax] at v1; rw [hay] at v2
      obtain ⟨xs, e1, _⟩ := v1
      obtain ⟨ys, e2, _⟩ := v2
      rw [e1, e2] at hrun
      refine ⟨.bool e', run_bin ho (by rw [e1, e2]; exact run_eqGuard_agg w op t x y _ _ hg) ?_, rfl⟩
      rw [e1, e2]
      rcases eqNil_cases he' with ⟨rfl, rfl⟩ | ⟨rfl, rfl⟩
      ·rw [run_eql_struct, hrun]; rfl
      ·rw [run_neq_struct, hrun]; rfl
     ·exact hk.elim
    ·exact hk.elim
   ·exact hk.elim
end
end Go.Ab
/- Operations: moves, parts, lengths, built values, calls. -/
namespace Go.Ab
open Go Go.Chr Go.RowKit
def aExtract (a : AV) (i : Nat) (k : OpR → Prop) : Prop := match a, i with
 | .t2 x _, 0 => k ⟨x, [], [], []⟩
 | .t2 _ y, 1 => k ⟨y, [], [], []⟩
 | .t3 x _ _, 0 => k ⟨x, [], [], []⟩
 | .t3 _ y _, 1 => k ⟨y, [], [], []⟩
 | .t3 _ _ z, 2 => k ⟨z, [], [], []⟩
 | _, _ => False
def inot (k : IntKind) (n : Int) : Int := k.wrap (BitVec.ofInt k.bits (if k.signed then -1 else k.max) ^^^ BitVec.ofInt k.bits n).toNat
def aUn (op : UnOp) (a : AV) (k : OpR → Prop) : Prop := match op, a with
 | .not, .c (.bool b) => k ⟨.c (.bool (!b)), [], [], []⟩
 | .neg, .c (.int kd n) => k ⟨.c (.int kd (kd.wrap (0 - n))), [], [], []⟩
 | .xor, .c (.int kd n) => k ⟨.c (.int kd (inot kd n)), [], [], []⟩
 | _, _ => False
def lenOf : AV → Option Nat
 | .own _ _ n => some n
 | .sub _ _ _ n => some n
 | .inn _ _ _ _ _ n => some n
 | .c (.ints _ l) => some l.length
 | .c (.rows _ _ xs) => some xs.length
 | .c (.raw (.slice none 0 _)) => some 0
 | _ => none
def aLen (C : Ctx) (t : TypeId) (a : AV) (k : OpR → Prop) : Prop := match C.P.underlying t with
 | some .string => match a with
  | .c (.str l) => k ⟨.c (.int .i64 l.length), [], [], []⟩
  | _ => False
 | some (.array n _) => k ⟨.c (.int .i64 n), [], [], []⟩
 | some (.slice _) => match lenOf a with
  | some n => k ⟨.c (.int .i64 n), [], [], []⟩
  | none => False
 | _ => False
section
variable {C : Ctx} {ι : Nat → Option Loc} {N : Nat → Prop} {w : World} {nx : Nat} {r : OpR} {o : Oper} {ρ : Operand → Option AV}
theorem okI_i64 (n : Int) : okI .i64 n := fun h => absurd rfl h
theorem sound_move {h : Heap} {x : Operand} (ho : o.op = .move x ∨ o.op = .assign x) {a : AV} (hx : ρ x = some a) {k : OpR → Prop} (hk : k ⟨a, [], [], []⟩) :
  ∃ r, OpSound C nx o ρ r ∧ r.Ok ∧ (∀ q ∈ r.rds, getK h q.1 = some q.2) ∧ k r := by
 refine read_out hk ?_
 intro ι N w act henv hop
 refine ⟨act.eval x, ?_, hop x _ (by rcases ho with ho | ho <;> rw [ho] <;> simp [Op.operands]) hx⟩
 unfold execOp
 rcases ho with ho | ho <;> simp [ho]
theorem val_t2 {x y : AV} {v : Value} (h : (AV.t2 x y).val ι N w v) : ∃ v1 v2, v = .tuple #[v1, v2] ∧ x.val ι N w v1 ∧ y.val ι N w v2 := by
 obtain ⟨v1, v2, e, h1, h2⟩ := h
 injection e with e
 exact ⟨v1, v2, e, h1, h2⟩
theorem val_t3 {x y z : AV} {v : Value} (h : (AV.t3 x y z).val ι N w v) : ∃ v1 v2 v3, v = .tuple #[v1, v2, v3] ∧ x.val ι N w v1 ∧ y.val ι N w v2 ∧ z.val ι N w v3 := by
 obtain ⟨v1, v2, v3, e, h1, h2, h3⟩ := h
 injection e with e
 exact ⟨v1, v2, v3, e, h1, h2, h3⟩
theorem run_extract {a : Act} {x : Operand} {i : Nat} (ho : o.op = .extract x i) {vs : Array Value} (hx : a.eval x = .tuple vs) {v : Value} (hv : vs[i]? = some v) : (execOp a.eval o).run C.P w = .ok (.value v) w := by
 unfold execOp
 simp [ho, hx, Instr.extract, hv]
theorem sound_extract {h : Heap} {x : Operand} {i : Nat} (ho : o.op = .extract x i) {a : AV} (hx : ρ x = some a) {k : OpR → Prop} (hk : aExtract a i k) :
  ∃ r, OpSound C nx o ρ r ∧ r.Ok ∧ (∀ q ∈ r.rds, getK h q.1 = some q.2) ∧ k r := by
 have mx : x ∈ o.op.operands := by rw [ho]; simp [Op.operands]
 unfold aExtract at hk
 split at hk
 ·refine read_out hk fun ι N w act henv hop => ?_
  obtain ⟨v1, v2, e, h1, h2⟩ := val_t2 (hop x _ mx hx)
  exact ⟨v1, run_extract ho e rfl, h1⟩
 ·refine read_out hk fun ι N w act henv hop => ?_
  obtain ⟨v1, v2, e, h1, h2⟩ := val_t2 (hop x _ mx hx)
  exact ⟨v2, run_extract ho e rfl, h2⟩
 ·refine read_out hk fun ι N w act henv hop => ?_
  obtain ⟨v1, v2, v3, e, h1, h2, h3⟩ := val_t3 (hop x _ mx hx)
  exact ⟨v1, run_extract ho e rfl, h1⟩
 ·refine read_out hk fun ι N w act henv hop => ?_
  obtain ⟨v1, v2, v3, e, h1, h2, h3⟩ := val_t3 (hop x _ mx hx)
  exact ⟨v2, run_extract ho e rfl, h2⟩
 ·refine read_out hk fun ι N w act henv hop => ?_
  obtain ⟨v1, v2, v3, e, h1, h2, h3⟩ := val_t3 (hop x _ mx hx)
  exact ⟨v3, run_extract ho e rfl, h3⟩
 ·exact hk.elim
theorem sound_un {h : Heap} {op : UnOp} {t : TypeId} {x : Operand} (ho : o.op = .unOp op t x) {a : AV} (hx : ρ x = some a) {k : OpR → Prop} (hk : aUn op a k) :
  ∃ r, OpSound C nx o ρ r ∧ r.Ok ∧ (∀ q ∈ r.rds, getK h q.1 = some q.2) ∧ k r := by
 have mx : x ∈ o.op.operands := by rw [ho]; simp [Op.operands]
 unfold aUn at hk
 split at hk
 ·refine read_out hk fun ι N w act henv hop => ?_
  have e := val_bool' (hop x _ mx hx)
  exact ⟨_, by unfold execOp; simp [ho, e, Op.unary]; (try rfl), rfl⟩
 ·refine read_out hk fun ι N w act henv hop => ?_
  obtain ⟨e, _⟩ := val_int (hop x _ mx hx)
  exact ⟨_, by unfold execOp; simp [ho, e, Op.unary, Op.intArith]; (try rfl), by simp [AV.val, asVal, AV.isAgg, CV.isAgg, AV.rel, CV.rel, wrap_has]⟩
 ·refine read_out hk fun ι N w act henv hop => ?_
  obtain ⟨e, _⟩ := val_int (hop x _ mx hx)
  exact ⟨_, by unfold execOp; simp [ho, e, Op.unary, Op.intBits]; (try rfl), rfl, wrap_has _ _⟩
 ·exact hk.elim
theorem lenOf_val {a : AV} {n : Nat} (h : lenOf a = some n) {v : Value} (hv : a.val ι N w v) : ∃ A c, v = .slice A n c := by
 unfold lenOf at h
 split at h
 ·injection h with h; subst h
  obtain ⟨L, _, _, h⟩ := hv
  rcases h with ⟨_, h0, A0, e⟩ | ⟨_, c, e, _⟩
  ·injection e with e; exact ⟨_, _, by rw [h0]; exact e⟩
  ·injection e with e; exact ⟨_, _, e⟩
 ·injection h with h; subst h
  obtain ⟨L, _, _, h⟩ := hv
  rcases h with ⟨_, h0, A0, e⟩ | ⟨_, A, c, e, _⟩
  ·injection e with e; exact ⟨_, _, by rw [h0]; exact e⟩
  ·injection e with e; exact ⟨_, _, e⟩
 ·injection h with h; subst h
  obtain ⟨L, A, c, _, _, _, e, _⟩ := hv
  injection e with e; exact ⟨_, _, e⟩
 ·injection h with h; subst h
  obtain ⟨⟨A, c, e, _⟩, _⟩ := hv
  injection e with e; exact ⟨_, _, e⟩
 ·injection h with h; subst h
  obtain ⟨_, _, A, c, e, _⟩ := hv
  injection e with e; exact ⟨_, _, e⟩
 ·injection h with h; subst h
  obtain ⟨e, _⟩ : [v] = [Value.slice none 0 _] ∧ _ := hv
  injection e with e; exact ⟨_, _, e⟩
 ·cases h
theorem run_len {a : Act} {c : Call} {b : Builtin} (ho : o.op = .call { c with callee := .builtin b }) {v : Value} (hr : (builtin b c.argTypes o.type (c.args.map fun | .const _ => true | _ => false) (c.args.map a.eval)).run C.P w = .ok (.value v) w) :
  (execOp a.eval o).run C.P w = .ok (.value v) w := by
 unfold execOp
 simp only [ho, resolve, invoke, Sem.run_bind, Sem.run_pure, Result.andThen_ok]
 exact hr
theorem sound_len {h : Heap} {t : TypeId} {x : Operand} (ho : o.op = .call { callee := .builtin .len, args := #[x], argTypes := #[t] }) {a : AV} (hx : ρ x = some a) {k : OpR → Prop} (hk : aLen C t a k) :
  ∃ r, OpSound C nx o ρ r ∧ r.Ok ∧ (∀ q ∈ r.rds, getK h q.1 = some q.2) ∧ k r := by
 have mx : x ∈ o.op.operands := by rw [ho]; simp [Op.operands, Call.operands]
 unfold aLen at hk
 split at hk
 ·rename_i hu
  split at hk
  ·refine read_out hk fun ι N w act henv hop => ?_
   obtain ⟨s, e, rfl⟩ := val_str (hop x _ mx hx)
   exact ⟨_, run_len (c := { callee := .builtin .len, args := #[x], argTypes := #[t] }) ho (by simp [builtin, Builtin.len_, run_underlying hu, e, goInt]; (try rfl)), by rw [size_bytes]; exact ⟨rfl, okI_i64 _⟩⟩
  ·exact hk.elim
 ·rename_i n el hu
  refine read_out hk fun ι N w act henv hop => ?_
  exact ⟨_, run_len (c := { callee := .builtin .len, args := #[x], argTypes := #[t] }) ho (by simp [builtin, Builtin.len_, run_underlying hu, goInt]; (try rfl)), rfl, okI_i64 _⟩
 ·rename_i el hu
  split at hk
  ·rename_i n hn
   refine read_out hk fun ι N w act henv hop => ?_
   obtain ⟨A, c, e⟩ := lenOf_val hn (hop x _ mx hx)
   exact ⟨_, run_len (c := { callee := .builtin .len, args := #[x], argTypes := #[t] }) ho (by simp [builtin, Builtin.len_, run_underlying hu, e, goInt]; (try rfl)), rfl, okI_i64 _⟩
  ·exact hk.elim
 ·exact hk.elim
end
end Go.Ab
/- Operations: conversions of numbers, built values, calls of functions; all operations. -/
namespace Go.Ab
open Go Go.Chr Go.RowKit
def aConv (C : Ctx) (src dst : TypeId) (a : AV) (k : OpR → Prop) : Prop := match C.P.underlying src, C.P.underlying dst, a with
 | some _, some (.int kd), .c (.int _ n) => k ⟨.c (.int kd (kd.wrap n)), [], [], []⟩
 | some .string, some .string, .c (.str l) => k ⟨.c (.str l), [], [], []⟩
 | _, _, _ => False
def normC : CV → CV
 | .arr k n l => arrC k n l
 | .pr a b => .pr (normC a) (normC b)
 | v => v
def joinA : AV → AV → AV
 | .c x, .c y => .c (.pr x y)
 | x, y => .pr x y
def normA : AV → AV
 | .c v => .c (normC v)
 | .pr a b => joinA (normA a) (normA b)
 | v => v
def wrapA (v : AV) : AV := bif v.isAgg then v else .pr v (.c .nl)
def fillA (place : Nat → Option (Nat × Nat)) (ρ : Operand → Option AV) : List (Nat × Operand) → AV → Option AV
 | [], v => some v
 | (i, x) :: l, v => match place i, ρ x with
  | some (off, size), some u => bif (Nat.beq u.size size && u.flat) && Nat.ble (off + size) v.size then
    (match setT v off u with
     | some v' => fillA place ρ l v'
     | none => none) else none
  | _, _ => none
def placeOf (C : Ctx) (t : TypeId) : Option (Nat → Option (Nat × Nat)) := match C.P.underlying t with
 | some (.struct fs) => match fs.toList.mapM (fun f => (C.P.info? f.type).map fun i => (f.offset, i.size)) with
  | some ps => some (ps.toArray[·]?)
  | none => none
 | some (.array _ e) => match C.P.info? e with
  | some ie => some fun i => some (i * ie.size, ie.size)
  | none => none
 | _ => none
def aBuild (C : Ctx) (t : TypeId) (parts : List (Nat × Operand)) (ρ : Operand → Option AV) (k : OpR → Prop) : Prop := match zeroOf C t, placeOf C t with
 | some z, some p => deepC z fun z => match fillA p ρ parts (expandC z) with
   | some v => k ⟨wrapA (normA v), [], [], []⟩
   | none => False
 | _, _ => False
section
variable {C : Ctx} {ι : Nat → Option Loc} {N : Nat → Prop} {w : World} {nx : Nat} {r : OpR} {o : Oper} {ρ : Operand → Option AV}
theorem normC_rel : ∀ {v : CV} {cs : List Value}, v.rel N w cs → (normC v).rel N w cs
 | .arr _ _ _, _, ⟨h1, h2, h3⟩ => arrC_rel h1 h2 h3
 | .pr a b, _, ⟨c1, c2, e, h1, h2⟩ => ⟨c1, c2, e, normC_rel h1, normC_rel h2⟩
 | .int _ _, _, h => h
 | .bool _, _, h => h
 | .str _, _, h => h
 | .raw _, _, h => h
 | .nat _ _, _, h => h
 | .nl, _, h => h
 | .ints _ _, _, h => h
 | .rows _ _ _, _, h => h
theorem arrC_isAgg (k : IntKind) (n : Nat) (l : List Int) : (arrC k n l).isAgg = true := by
 unfold arrC
 split
 ·cases Nat.beq n 4 <;> rfl
 ·rfl
theorem normC_isAgg : ∀ v : CV, (normC v).isAgg = v.isAgg
 | .arr k n l => arrC_isAgg k n l
 | .pr _ _ => rfl
 | .int _ _ => rfl
 | .bool _ => rfl
 | .str _ => rfl
 | .raw _ => rfl
 | .nat _ _ => rfl
 | .nl => rfl
 | .ints _ _ => rfl
 | .rows _ _ _ => rfl
theorem joinA_rel {x y : AV} {c1 c2 : List Value} (h1 : x.rel ι N w c1) (h2 : y.rel ι N w c2) : (joinA x y).rel ι N w (c1 ++ c2) := by
 unfold joinA
 split
 ·exact ⟨c1, c2, rfl, h1, h2⟩
 ·exact ⟨c1, c2, rfl, h1, h2⟩
theorem normA_rel : ∀ {v : AV} {cs : List Value}, v.rel ι N w cs → (normA v).rel ι N w cs
 | .c v, _, h => normC_rel (v := v) h
 | .pr a b, _, ⟨c1, c2, e, h1, h2⟩ => by rw [e]; exact joinA_rel (normA_rel h1) (normA_rel h2)
 | .ptr _ _ _ _, _, h => h
 | .cp _ _ _, _, h => h
 | .own _ _ _, _, h => h
 | .sub _ _ _ _, _, h => h
 | .inn _ _ _ _ _ _, _, h => h
 | .t0, _, h => h
 | .t2 _ _, _, h => h
 | .t3 _ _ _, _, h => h
 | .fn _ _, _, h => h
 | .hd _ _, _, h => h
theorem wrapA_val {v : AV} {cs : List Value} (h : v.rel ι N w cs) : (wrapA v).val ι N w (.agg cs.toArray) := by
 unfold wrapA
 cases ha : v.isAgg with
 | true =>
  show asVal v.isAgg _ _
  rw [ha]; exact ⟨cs, rfl, h⟩
 | false => exact ⟨cs, rfl, cs, [], by simp, h, rfl⟩
theorem sound_conv {h : Heap} {src dst : TypeId} {x : Operand} (ho : o.op = .convert src dst x) {a : AV} (hx : ρ x = some a) {k : OpR → Prop} (hk : aConv C src dst a k) :
  ∃ r, OpSound C nx o ρ r ∧ r.Ok ∧ (∀ q ∈ r.rds, getK h q.1 = some q.2) ∧ k r := by
 have mx : x ∈ o.op.operands := by rw [ho]; simp [Op.operands]
 unfold aConv at hk
 split at hk
 ·rename_i d kd k0 n hs hd
  refine read_out hk fun ι N w act henv hop => ?_
  obtain ⟨e, _⟩ := val_int (hop x _ mx hx)
  exact ⟨_, by unfold execOp; simp [ho, e, convert, run_underlying hs, run_underlying hd, Conv.intToInt], rfl, wrap_has _ _⟩
 ·rename_i l hs hd
  refine read_out hk fun ι N w act henv hop => ?_
  obtain ⟨s, e, rfl⟩ := val_str (hop x _ mx hx)
  exact ⟨_, by unfold execOp; simp [ho, e, convert, run_underlying hs, run_underlying hd]; (try rfl), s, rfl, rfl⟩
 ·exact hk.elim
theorem foldl_set (us : List Value) : ∀ (cells : List Value) (off j : Nat), off + j + us.length ≤ cells.length →
  (us.zipIdx j).foldl (fun (cs : Array Value) (p : Value × Nat) => cs.setIfInBounds (off + p.2) p.1) cells.toArray = (cells.take (off + j) ++ (us ++ cells.drop (off + j + us.length))).toArray := by
 induction us with
 | nil => intro cells off j _; simp
 | cons u us ih =>
  intro cells off j hl
  simp only [List.length_cons] at hl
  rw [List.zipIdx_cons, List.foldl_cons]
  have e : cells.toArray.setIfInBounds (off + j) u = (cells.set (off + j) u).toArray := by simp
  rw [e, ih _ off (j + 1) (by simp; omega)]
  have hU : (cells.take (off + j)).length = off + j := by simp; omega
  rw [list_set_eq _ _ _ (by omega)]
  generalize cells.take (off + j) = U at hU ⊢
  have t1 : (U ++ u :: cells.drop (off + j + 1)).take (off + (j + 1)) = U ++ [u] := by
   rw [List.take_append, List.take_of_length_le (by omega), show off + (j + 1) - U.length = 1 by omega]
   rfl
  have t2 : (U ++ u :: cells.drop (off + j + 1)).drop (off + (j + 1) + us.length) = cells.drop (off + j + (us.length + 1)) := by
   rw [List.drop_append, List.drop_eq_nil_of_le (by omega), List.nil_append, show off + (j + 1) + us.length - U.length = us.length + 1 by omega, List.drop_succ_cons, List.drop_drop]
   congr 1
   omega
  rw [t1, t2]
  simp
theorem fill_rel {place : Nat → Option (Nat × Nat)} {a : Act} : ∀ (l : List (Nat × Operand)) (v u : AV) (cells : List Value), v.rel ι N w cells → fillA place ρ l v = some u →
  (∀ p ∈ l, ∀ v, ρ p.2 = some v → v.val ι N w (a.eval p.2)) → ∃ cells', Instr.fill place cells.toArray (l.map fun p => (p.1, a.eval p.2)) = some cells'.toArray ∧ u.rel ι N w cells'
 | [], v, u, cells, hv, h, _ => by
  injection h with h; subst h
  exact ⟨cells, rfl, hv⟩
 | (i, x) :: l, v, u, cells, hv, h, hm => by
  unfold fillA at h
  split at h
  ·rename_i off size y hp hx
   cases hc : (Nat.beq y.size size && y.flat) && Nat.ble (off + size) v.size with
   | false => rw [hc] at h; cases h
   | true =>
    rw [hc] at h
    simp only [cond_true] at h
    simp only [Bool.and_eq_true] at hc
    obtain ⟨⟨h1, h2⟩, h3⟩ := hc
    have h1 := beqN h1
    have h3 := bleN h3
    split at h
    ·rename_i v' hset
     obtain ⟨us, hcells, hur⟩ := cells_val (hm (i, x) (by simp) y hx) h2
     have lu := hur.len
     have lv := hv.len
     have hr := setT_rel hv hur (by omega) hset
     obtain ⟨cells', hf, hr'⟩ := fill_rel l v' u _ hr h (fun p hp => hm p (List.mem_cons_of_mem _ hp))
     refine ⟨cells', ?_, hr'⟩
     simp only [List.map_cons]
     unfold Instr.fill
     rw [hp]
     simp only [hcells, List.size_toArray]
     rw [if_neg (by simp; omega)]
     have := foldl_set us cells off 0 (by omega)
     simp only [Nat.add_zero] at this
     rw [← hf, ← this]
     congr 1
     simp
    ·cases h
  ·cases h
theorem built_eq {t : TypeId} {z : Value} {i : TypeInfo} {p : Nat → Option (Nat × Nat)} (hi : C.P.info? t = some i) (hz : i.zero = some z) (hp : placeOf C t = some p) (l : List (Nat × Value)) :
  C.P.built t l = Instr.fill p z.cells l := by
 unfold placeOf at hp
 unfold Program.built
 rw [hi]
 split at hp
 ·rename_i fs hu
  split at hp
  ·rename_i ps hps
   injection hp with hp; subst hp
   rw [hu]
   simp only [hz, hps]
  ·cases hp
 ·rename_i e hu
  split at hp
  ·rename_i ie hie
   injection hp with hp; subst hp
   rw [hu]
   simp only [hz, hie]
  ·cases hp
 ·cases hp
theorem sound_build {h : Heap} {t : TypeId} {parts : Array (Nat × Operand)} (ho : o.op = .build t parts) {k : OpR → Prop} (hk : aBuild C t parts.toList ρ k) :
  ∃ r, OpSound C nx o ρ r ∧ r.Ok ∧ (∀ q ∈ r.rds, getK h q.1 = some q.2) ∧ k r := by
 unfold aBuild at hk
 split at hk
 ·rename_i z p hz hp
  rw [deepC_eq] at hk
  split at hk
  ·rename_i v hv
   refine read_out hk fun ι N w act henv hop => ?_
   obtain ⟨i, zv, hi, hzv, hr⟩ := zeroOf_rel (N := N) (w := w) hz
   obtain ⟨cells', hf, hr'⟩ := fill_rel (ι := ι) (N := N) (w := w) (a := act) parts.toList (expandC z) v zv.cells.toList (expandC_rel hr) hv (fun q hq u hu => hop q.2 u (by
    rw [ho]; simp only [Op.operands, List.mem_toArray, List.mem_map]
    simpa using ⟨q.1, by simpa using hq⟩) hu)
   refine ⟨.agg cells'.toArray, ?_, wrapA_val (normA_rel hr')⟩
   have hb := run_build (P := C.P) w t (parts.map fun (i, x) => (i, act.eval x)) cells'.toArray (by
    rw [built_eq hi hzv hp]
    simpa using hf)
   unfold execOp
   simp only [ho, Sem.run_bind, hb, Result.andThen_ok, Sem.run_pure]
  ·exact hk.elim
 ·exact hk.elim
end
end Go.Ab
/- Values of a call: closed ones. -/
namespace Go.Ab
open Go Go.Chr Go.RowKit
def tagOf : CV → Option Tag
 | .int k _ => some (.int k)
 | .bool _ => some .bool
 | .str _ => some .str
 | .nat m _ => some (.nat m)
 | .arr k n _ => some (.arr k n)
 | .nl => some .nl
 | .pr a b => match tagOf a, tagOf b with
  | some x, some y => some (.pr x y)
  | _, _ => none
 | .ints k _ => some (.ints k)
 | .rows sz t _ => some (.rows sz t)
 | .raw (.slice none 0 0) => some (.ints .u8)
 | .raw _ => none
def ofCVs (t : Tag) : List CV → Option (List (El t))
 | [] => some []
 | v :: l => match ofCV t v, ofCVs t l with
  | some x, some xs => some (x :: xs)
  | _, _ => none
def listRows (esz : Nat) : List CV → Option CV
 | [] => none
 | v :: l => match tagOf v with
  | some t => match ofCVs t (v :: l) with
   | some xs => some (.rows esz t xs)
   | none => none
  | none => none
section
variable {N : Nat → Prop} {w : World}
theorem ofCVs_rel {t : Tag} {sz : Nat} : ∀ {l : List CV} {xs : List (El t)} {cs : List Value}, ofCVs t l = some xs → relList sz (fun a => a.rel N w) l cs → relList sz (fun a => t.rel N w a) xs cs ∧ xs.length = l.length
 | [], xs, cs, h, hr => by injection h with h; subst h; exact ⟨hr, rfl⟩
 | v :: l, xs, cs, h, ⟨c1, c2, e, hs, h1, h2⟩ => by
  unfold ofCVs at h
  split at h
  ·rename_i x ys hx hy
   injection h with h; subst h
   obtain ⟨g1, g2⟩ := ofCVs_rel hy h2
   exact ⟨⟨c1, c2, e, hs, ofCV_rel hx h1, g1⟩, by simp [g2]⟩
  ·cases h
theorem listRows_rel {esz : Nat} {l : List CV} {v : CV} (h : listRows esz l = some v) {cs cells : List Value} {n : Nat} (hn : l.length = n) (hr : relList esz (fun a => a.rel N w) l cs) (hs : SliceOf N w n cs cells) : v.rel N w cells := by
 subst hn
 unfold listRows at h
 split at h
 ·cases h
 ·rename_i v' l'
  split at h
  ·rename_i t ht
   split at h
   ·rename_i xs hxs
    injection h with h; subst h
    obtain ⟨g1, g2⟩ := ofCVs_rel hxs hr
    rw [← g2] at hs
    exact ⟨cs, g1, hs⟩
   ·cases h
  ·cases h
theorem listRows_isAgg {esz : Nat} {l : List CV} {v : CV} (h : listRows esz l = some v) : v.isAgg = false := by
 unfold listRows at h
 split at h
 ·cases h
 ·split at h
  ·split at h
   ·injection h with h; subst h; rfl
   ·cases h
  ·cases h
end
def closedL : List AV → Option (List CV)
 | [] => some []
 | .c v :: l => (closedL l).map (v :: ·)
 | _ => none
def cloB (esz : Nat) : Body → Option CV
 | .ints k l => some (.ints k l)
 | .rows t xs => some (.rows esz t xs)
 | .els l => match closedL l with
  | some cs => listRows esz cs
  | none => none
def cloS (esz : Nat) (i n : Nat) : Body → Option CV
 | .ints k l => some (.ints k ((l.drop i).take n))
 | .rows t xs => some (.rows esz t ((xs.drop i).take n))
 | .els l => match closedL ((l.drop i).take n) with
  | some cs => listRows esz cs
  | none => none
def cloI (h : Heap) (b i esz off n : Nat) : Option (CV × List (Nat × Blk')) := match getK h b with
 | some (.cells ty esz' body) => bif Nat.beq esz esz' then (match (elemV body i).bind (subT · off n) with
   | some (.c (.arr k _ l)) => some (.ints k l, [(b, .cells ty esz' body)])
   | _ => none) else none
 | _ => none
def clo (h : Heap) : AV → Option (CV × List (Nat × Blk'))
 | .c v => some (normC v, [])
 | .pr a b => match clo h a, clo h b with
  | some (x, r1), some (y, r2) => some (.pr x y, r1 ++ r2)
  | _, _ => none
 | .own b esz _ => match getK h b with
  | some (.cells ty esz' body) => bif Nat.beq esz esz' && Nat.ble 1 esz then (cloB esz body).map fun v => (v, [(b, .cells ty esz' body)]) else none
  | _ => none
 | .sub b esz i n => match getK h b with
  | some (.cells ty esz' body) => bif Nat.beq esz esz' && Nat.ble 1 esz then (cloS esz i n body).map fun v => (v, [(b, .cells ty esz' body)]) else none
  | _ => none
 | .inn (.l b) i esz off sz n => bif Nat.beq sz 1 then cloI h b i esz off n else none
 | _ => none
section
variable {C : Ctx} {ι : Nat → Option Loc} {N M : Nat → Prop} {w : World}
theorem closedL_rel {sz : Nat} : ∀ {l : List AV} {cs : List CV} {cells : List Value}, closedL l = some cs → relList sz (fun a => a.rel ι N w) l cells → relList sz (fun a => a.rel N w) cs cells ∧ cs.length = l.length
 | [], cs, cells, h, hr => by injection h with h; subst h; exact ⟨hr, rfl⟩
 | a :: l, cs, cells, h, ⟨c1, c2, e, hs, h1, h2⟩ => by
  unfold closedL at h
  split at h
  ·rename_i heq; cases heq
  ·rename_i v r heq
   injection heq with e1 e2; subst e1; subst e2
   simp only [Option.map_eq_some_iff] at h
   obtain ⟨cs', h, rfl⟩ := h
   obtain ⟨g1, g2⟩ := closedL_rel h h2
   exact ⟨⟨c1, c2, e, hs, h1, g1⟩, by simp [g2]⟩
  ·cases h
theorem relList_drop.{u} {α : Type u} {sz : Nat} {p : α → List Value → Prop} : ∀ {l : List α} {cs : List Value} (i : Nat), relList sz p l cs → relList sz p (l.drop i) (cs.drop (i * sz))
 | l, cs, 0, h => by simpa using h
 | [], cs, i + 1, h => by have h : cs = [] := h; rw [h]; simp [relList]
 | a :: l, cs, i + 1, ⟨c1, c2, e, hs, h1, h2⟩ => by
  have := relList_drop i h2
  have hd : c1.drop ((i + 1) * sz) = [] := List.drop_eq_nil_of_le (by rw [Nat.add_mul]; omega)
  rw [List.drop_succ_cons, e, List.drop_append, hd, List.nil_append, show (i + 1) * sz - c1.length = i * sz by rw [Nat.add_mul]; omega]
  exact this
theorem relList_take.{u} {α : Type u} {sz : Nat} {p : α → List Value → Prop} : ∀ {l : List α} {cs : List Value} (i : Nat), relList sz p l cs → relList sz p (l.take i) (cs.take (i * sz))
 | l, cs, 0, h => by simp [relList]
 | [], cs, i + 1, h => by have h : cs = [] := h; rw [h]; simp [relList]
 | a :: l, cs, i + 1, ⟨c1, c2, e, hs, h1, h2⟩ => by
  have := relList_take i h2
  have hd : c1.take ((i + 1) * sz) = c1 := List.take_of_length_le (by rw [Nat.add_mul]; omega)
  rw [List.take_succ_cons, e, List.take_append, hd, show (i + 1) * sz - c1.length = i * sz by rw [Nat.add_mul]; omega]
  exact ⟨c1, _, rfl, hs, h1, this⟩
theorem slice_lies {L : Loc} {ty : TypeId} {esz : Nat} {body : Body} {pre xs post : List Value} (hl : Lies ι N w L ty esz body pre xs post) (hM : M L.blk) {A : Option Addr} {c i n : Nat} (hnc : n ≤ c)
  (hA : 0 < n → A = some ⟨L.blk, L.off + i * esz, none⟩) (hin : i + n ≤ L.len) : SliceOf M w n ((xs.drop (i * esz)).take (n * esz)) [.slice A n c] := by
 refine ⟨A, c, rfl, hnc, fun h0 => ⟨_, hA h0, hM, fun j u hj => ?_⟩⟩
 have hx : xs[i * esz + j]? = some u := by
  rw [List.getElem?_take] at hj
  split at hj
  ·rwa [List.getElem?_drop] at hj
  ·cases hj
 obtain ⟨hh, hp, _⟩ := hl
 rw [Addr.add_mid]
 have := cell_mid (c1 := []) (c2 := xs) (c3 := []) (by simpa using hh) hx
 rw [← this]
 congr 2
 simp; omega
theorem cloB_rel {L : Loc} {ty : TypeId} {esz : Nat} {body : Body} {pre xs post : List Value} (he : 0 < esz) (hl : Lies ι N w L ty esz body pre xs post) (hN : ∀ k, N k → M k) (hM : M L.blk) {v : CV} (h : cloB esz body = some v) {c : Nat}
  (hc : L.len ≤ c) : v.rel M w [.slice (some ⟨L.blk, L.off, none⟩) L.len c] := by
 have hs := slice_lies (M := M) hl hM (A := some ⟨L.blk, L.off, none⟩) (i := 0) (n := L.len) hc (fun _ => by simp) (by omega)
 obtain ⟨hh, hp, hr, hlen⟩ := hl
 have hxl := hr.len
 rw [Nat.zero_mul, List.drop_zero, List.take_of_length_le (by rw [hxl, hlen]; exact Nat.le_refl _)] at hs
 rw [← hlen] at hs ⊢
 unfold cloB at h
 split at h
 ·injection h with h; subst h
  obtain ⟨_, e, hx⟩ := hr
  subst e
  exact ⟨hs, hx⟩
 ·injection h with h; subst h
  exact ⟨xs, relList_mono (fun _ _ h => Tag.rel_mono hN (fun _ _ => rfl) h) hr, hs⟩
 ·split at h
  ·rename_i cs hcs
   obtain ⟨g1, g2⟩ := closedL_rel hcs hr
   exact listRows_rel h g2 (relList_mono (fun _ _ h => h.mono hN fun _ _ => rfl) g1) hs
  ·cases h
theorem cloS_rel {L : Loc} {ty : TypeId} {esz : Nat} {body : Body} {pre xs post : List Value} (he : 0 < esz) (hl : Lies ι N w L ty esz body pre xs post) (hN : ∀ k, N k → M k) (hM : M L.blk) {i n : Nat} {v : CV} (h : cloS esz i n body = some v) {A : Option Addr} {c : Nat}
  (hc : n ≤ c) (hA : 0 < n → A = some ⟨L.blk, L.off + i * esz, none⟩) (hin : i + n ≤ L.len) : v.rel M w [.slice A n c] := by
 have hs := slice_lies (M := M) hl hM hc hA hin
 obtain ⟨hh, hp, hr, hlen⟩ := hl
 unfold cloS at h
 split at h
 ·injection h with h; subst h
  rename_i k l
  obtain ⟨rfl, e, hx⟩ := hr
  subst e
  have hlen : l.length = L.len := hlen
  have hln : ((l.drop i).take n).length = n := by simp; omega
  refine ⟨?_, fun x hx' => hx x (List.mem_of_mem_drop (List.mem_of_mem_take hx'))⟩
  rw [hln]
  rw [Nat.mul_one, Nat.mul_one, ← List.map_drop, ← List.map_take] at hs
  exact hs
 ·injection h with h; subst h
  rename_i t zs
  have hlen : zs.length = L.len := hlen
  have hln : ((zs.drop i).take n).length = n := by simp; omega
  refine ⟨_, relList_take n (relList_drop i (relList_mono (fun _ _ h => Tag.rel_mono hN (fun _ _ => rfl) h) hr)), ?_⟩
  rw [hln]
  exact hs
 ·rename_i l
  have hlen : l.length = L.len := hlen
  have hln : ((l.drop i).take n).length = n := by simp; omega
  split at h
  ·rename_i cs hcs
   obtain ⟨g1, g2⟩ := closedL_rel hcs (relList_take n (relList_drop i hr))
   exact listRows_rel h (g2.trans hln) (relList_mono (fun _ _ h => h.mono hN fun _ _ => rfl) g1) hs
  ·cases h
theorem nil_rel {A : Option Addr} : ∀ {v : CV} {esz : Nat} {body : Body}, cloB esz body = some v → body.len = 0 → v.rel M w [.slice A 0 0]
 | v, esz, .ints k l, h, h0 => by
  injection h with h; subst h
  have : l = [] := List.eq_nil_of_length_eq_zero h0
  subst this
  exact ⟨⟨A, 0, rfl, Nat.le_refl _, fun h => absurd h (by simp)⟩, fun x hx => by cases hx⟩
 | v, esz, .rows t xs, h, h0 => by
  injection h with h; subst h
  have : xs = [] := List.eq_nil_of_length_eq_zero h0
  subst this
  exact ⟨[], rfl, A, 0, rfl, Nat.le_refl _, fun h => absurd h (by simp)⟩
 | v, esz, .els l, h, h0 => by
  have : l = [] := List.eq_nil_of_length_eq_zero h0
  subst this
  cases h
theorem nil_relS {A : Option Addr} {v : CV} {esz i n : Nat} {body : Body} (h : cloS esz i n body = some v) (h0 : n = 0) : v.rel M w [.slice A 0 0] := by
 subst h0
 unfold cloS at h
 split at h
 ·injection h with h; subst h
  simp only [List.take_zero]
  exact ⟨⟨A, 0, rfl, Nat.le_refl _, fun h => absurd h (by simp)⟩, fun x hx => by cases hx⟩
 ·injection h with h; subst h
  simp only [List.take_zero]
  exact ⟨[], rfl, A, 0, rfl, Nat.le_refl _, fun h => absurd h (by simp)⟩
 ·simp only [List.take_zero] at h
  cases h
theorem clo_rel {h : Heap} (hN : ∀ k, N k → M k) : ∀ {a : AV} {v : CV} {rds : List (Nat × Blk')} {cs : List Value}, clo h a = some (v, rds) → a.rel ι N w cs →
  (∀ p ∈ rds, ∃ L, ι p.1 = some L ∧ BlkRel ι N w L p.2 ∧ (L.ph = false → M L.blk)) → v.rel M w cs ∧ v.isAgg = a.isAgg ∧ ∀ p ∈ rds, getK h p.1 = some p.2
 | .c u, v, rds, cs, e, hr, hp => by
  injection e with e; injection e with e1 e2; subst e1; subst e2
  exact ⟨normC_rel (CV.rel.mono hN (fun _ _ => rfl) (a := u) hr), normC_isAgg u, fun p hp => by simp at hp⟩
 | .pr a b, v, rds, cs, e, ⟨c1, c2, ec, h1, h2⟩, hp => by
  unfold clo at e
  split at e
  ·rename_i x r1 y r2 ha hb
   injection e with e; injection e with e1 e2; subst e1; subst e2
   obtain ⟨g1, _, g3⟩ := clo_rel hN ha h1 fun p h => hp p (List.mem_append.2 (.inl h))
   obtain ⟨k1, _, k3⟩ := clo_rel hN hb h2 fun p h => hp p (List.mem_append.2 (.inr h))
   exact ⟨⟨c1, c2, ec, g1, k1⟩, rfl, fun p h => by
    rcases List.mem_append.1 h with h | h
    ·exact g3 p h
    ·exact k3 p h⟩
  ·cases e
 | .own b esz n, v, rds, cs, e, hr, hp => by
  unfold clo at e
  split at e
  ·rename_i ty esz' body hb
   cases hc : Nat.beq esz esz' && Nat.ble 1 esz with
   | false => rw [hc] at e; cases e
   | true =>
    rw [hc] at e
    simp only [Bool.and_eq_true] at hc
    have := beqN hc.1; subst this
    have he := bleN hc.2
    simp only [cond_true, Option.map_eq_some_iff] at e
    obtain ⟨v', hv, e⟩ := e
    injection e with e1 e2; subst e1; subst e2
    obtain ⟨L, hL, hbr, hM⟩ := hp (b, .cells ty esz body) (by simp)
    obtain ⟨L', hL', hn, hcase⟩ := hr
    rw [hL] at hL'; injection hL' with hL'; subst hL'
    refine ⟨?_, ?_, fun p h => by simp at h; rw [h]; exact hb⟩
    ·rcases hcase with ⟨hph, h0, A0, ec⟩ | ⟨hph, c, ec, hnc, _⟩
     ·rw [ec]
      rcases hbr with ⟨_, _, hlen, _⟩ | ⟨hph', _⟩
      ·exact nil_rel hv hlen
      ·rw [hph] at hph'; cases hph'
     ·rcases hbr with ⟨hph', _⟩ | ⟨_, pre, xs, post, hl, _⟩
      ·rw [hph] at hph'; cases hph'
      ·rw [ec, ← hn]
       exact cloB_rel he hl hN (hM hph) hv (by omega)
    ·cases body with
     | ints k l => injection hv with hv; subst hv; rfl
     | rows t xs => injection hv with hv; subst hv; rfl
     | els l =>
      unfold cloB at hv
      simp only at hv
      split at hv
      ·exact listRows_isAgg hv
      ·cases hv
  ·cases e
 | .sub b esz i n, v, rds, cs, e, hr, hp => by
  unfold clo at e
  split at e
  ·rename_i ty esz' body hb
   cases hc : Nat.beq esz esz' && Nat.ble 1 esz with
   | false => rw [hc] at e; cases e
   | true =>
    rw [hc] at e
    simp only [Bool.and_eq_true] at hc
    have := beqN hc.1; subst this
    have he := bleN hc.2
    simp only [cond_true, Option.map_eq_some_iff] at e
    obtain ⟨v', hv, e⟩ := e
    injection e with e1 e2; subst e1; subst e2
    obtain ⟨L, hL, hbr, hM⟩ := hp (b, .cells ty esz body) (by simp)
    obtain ⟨L', hL', hn, hcase⟩ := hr
    rw [hL] at hL'; injection hL' with hL'; subst hL'
    refine ⟨?_, ?_, fun p h => by simp at h; rw [h]; exact hb⟩
    ·rcases hcase with ⟨hph, h0, A0, ec⟩ | ⟨hph, A, c, ec, hnc, hAb, hAs, hAo⟩
     ·rw [ec]
      exact nil_relS hv h0
     ·rcases hbr with ⟨hph', _⟩ | ⟨_, pre, xs, post, hl, _⟩
      ·rw [hph] at hph'; cases hph'
      ·rw [ec]
       exact cloS_rel he hl hN (hM hph) hv hnc (fun h0 => by rw [eta_addr hAb hAs (hAo (by omega)).1]) hn
    ·cases body with
     | ints k l => injection hv with hv; subst hv; rfl
     | rows t xs => injection hv with hv; subst hv; rfl
     | els l =>
      unfold cloS at hv
      simp only at hv
      split at hv
      ·exact listRows_isAgg hv
      ·cases hv
  ·cases e
 | .inn (.l b) i esz off sz n, v, rds, cs, e, hr, hp => by
  change (bif Nat.beq sz 1 then cloI h b i esz off n else none) = some (v, rds) at e
  cases hs1 : Nat.beq sz 1 with
  | false => rw [hs1] at e; cases e
  | true =>
  rw [hs1] at e
  have := beqN hs1; subst this
  simp only [cond_true] at e
  unfold cloI at e
  split at e
  ·rename_i ty esz' body hb
   cases hc : Nat.beq esz esz' with
   | false => rw [hc] at e; cases e
   | true =>
    rw [hc] at e
    have := beqN hc; subst this
    simp only [cond_true] at e
    split at e
    ·rename_i k m l hsub
     injection e with e; injection e with e1 e2; subst e1; subst e2
     obtain ⟨L, hL, hbr, hM⟩ := hp (b, .cells ty esz body) (by simp)
     obtain ⟨L', A, c, hL', hi, hfit, ec, hnc, hAb, hAs, hAo⟩ := hr
     have hL' : ι b = some L' := hL'
     rw [hL] at hL'; injection hL' with hL'; subst hL'
     refine ⟨?_, rfl, fun p h => by simp at h; rw [h]; exact hb⟩
     rcases hbr with ⟨_, _, _, h0⟩ | ⟨hph, pre, xs, post, ⟨hh, hpl, hrel, hlen⟩, _⟩
     ·omega
     ·rw [Option.bind_eq_some_iff] at hsub
      obtain ⟨el, hel, hsub⟩ := hsub
      obtain ⟨c1, c2, c3, rfl, e1, e2, hrc⟩ := elemV_rel hrel (by omega) hel
      have hfit : off + n ≤ el.size := by have := hrc.len; omega
      have := subT_rel hrc hfit hsub
      obtain ⟨hx1, hx2, hx3⟩ := this
      have hln : l.length = n := by
       have := congrArg List.length hx1
       simp at this; omega
      refine ⟨?_, hx3⟩
      rw [ec, ← hx1, hln]
      refine ⟨some A, c, rfl, hnc, fun h0 => ⟨A, rfl, by rw [hAb]; exact hM hph, fun j u hj => ?_⟩⟩
      rw [eta_addr hAb hAs (hAo (by omega)), Addr.add_mid]
      have hrange := range_mid (w := w) hh off n j u hj
      rw [← hrange]
      congr 2
      omega
    ·cases e
  ·cases e
 | .inn (.g b) i esz off sz n, v, rds, cs, e, hr, hp => by cases e
 | .ptr _ _ _ _, v, rds, cs, e, hr, hp => by cases e
 | .cp _ _ _, v, rds, cs, e, hr, hp => by cases e
 | .t0, v, rds, cs, e, hr, hp => by cases e
 | .t2 _ _, v, rds, cs, e, hr, hp => by cases e
 | .t3 _ _ _, v, rds, cs, e, hr, hp => by cases e
 | .fn _ _, v, rds, cs, e, hr, hp => by cases e
 | .hd _ _, v, rds, cs, e, hr, hp => by cases e
end
def cloLp (p : AV → Option (CV × List (Nat × Blk'))) : List AV → Option (List CV × List (Nat × Blk'))
 | [] => some ([], [])
 | a :: l => match p a, cloLp p l with
  | some (x, r1), some (y, r2) => some (x :: y, r1 ++ r2)
  | _, _ => none
def cloEls (p : AV → Option (CV × List (Nat × Blk'))) (b esz : Nat) (l : List AV) (blk : Blk') : Option (CV × List (Nat × Blk')) := match cloLp p l with
 | some (cs, r) => match listRows esz cs with
  | some v => some (v, (b, blk) :: r)
  | none => none
 | none => none
def clo1 (p : AV → Option (CV × List (Nat × Blk'))) (h : Heap) : AV → Option (CV × List (Nat × Blk'))
 | .own b esz n => match getK h b with
  | some (.cells ty e' (.els l)) => bif Nat.beq esz e' && Nat.ble 1 esz then cloEls p b esz l (.cells ty e' (.els l)) else none
  | _ => clo h (.own b esz n)
 | .sub b esz i n => match getK h b with
  | some (.cells ty e' (.els l)) => bif Nat.beq esz e' && Nat.ble 1 esz then cloEls p b esz ((l.drop i).take n) (.cells ty e' (.els l)) else none
  | _ => clo h (.sub b esz i n)
 | a => clo h a
def cloP (q : AV → Option (CV × List (Nat × Blk'))) : AV → Option (CV × List (Nat × Blk'))
 | .pr a b => match cloP q a, cloP q b with
  | some (x, r1), some (y, r2) => some (.pr x y, r1 ++ r2)
  | _, _ => none
 | a => q a
def cloD : Nat → Heap → AV → Option (CV × List (Nat × Blk'))
 | 0, h => clo h
 | d + 1, h => cloP (clo1 (cloD d h) h)
end Go.Ab
