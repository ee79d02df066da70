import Derived.Below
import Derived.Laws.OwnMore
import Derived.Deep.AppendLies
import Derived.Deep.Draws
import Derived.Laws.Rows
import Derived.Maps.AppendAt
import Derived.RegionTactic
import Derived.OwnWalk
import Derived.Laws.ResultCell
import Derived.Laws.Bits64
import Derived.Deep.MidRow
import Derived.Lib.Hide
import Derived.KernelRfl
import Derived.Deep.RegionHeld3
/- The words for memory in which the contracts are told. (Sections 1 to 3 of the kit's page of words, laid here as that page asks.) -/
namespace Go.Chr
open Go.RowKit
theorem block_of_add (a : Addr) (n : Nat) : (a.add n).block = a.block := by unfold Addr.add; split <;> rfl
theorem add_of_add (a : Addr) (i j : Nat) : (a.add i).add j = a.add (i + j) := by
 unfold Addr.add
 by_cases hi : i = 0 <;> by_cases hj : j = 0 <;> simp [hi, hj, Nat.add_assoc]
def Reads (w : World) (B size : Nat) (A : Option Addr) (n : Nat) (xs : List Value) : Prop :=
 xs.length = n * size ∧ (0 < n → ∃ ad, A = some ad ∧ ad.block < B ∧ ∀ j u, xs[j]? = some u → w.cell? (ad.add j) = some u)
section
variable {w w' : World} {B B' size n : Nat} {A : Option Addr} {xs : List Value}
theorem Reads.at_ {k : Nat} (h : Reads w B 1 A n xs) (hk : k < n) : ∃ ad u, A = some ad ∧ ad.block < B ∧ xs[k]? = some u ∧ w.cell? (ad.add k) = some u := by
 obtain ⟨ad, e, hb, hc⟩ := h.2 (by omega)
 have hl : k < xs.length := by have := h.1; omega
 exact ⟨ad, xs[k], e, hb, List.getElem?_eq_getElem hl, hc k _ (List.getElem?_eq_getElem hl)⟩
theorem Reads.keep (h : Reads w B size A n xs) (hk : ∀ p : Addr, p.block < B → w'.cell? p = w.cell? p) : Reads w' B size A n xs :=
 ⟨h.1, fun hn => by
  obtain ⟨ad, e, hb, hc⟩ := h.2 hn
  exact ⟨ad, e, hb, fun j u hu => (hk _ (by rw [block_of_add]; exact hb)).trans (hc j u hu)⟩⟩
theorem Reads.more (h : Reads w B size A n xs) (hB : B ≤ B') : Reads w B' size A n xs :=
 ⟨h.1, fun hn => by
  obtain ⟨ad, e, hb, hc⟩ := h.2 hn
  exact ⟨ad, e, by omega, hc⟩⟩
theorem Reads.below (h : Reads w B size A n xs) (hb : Below B w w') : Reads w' B size A n xs := h.keep fun _ hp => hb.cell hp
theorem Reads.drew (h : Reads w B size A n xs) : Reads w.drew B size A n xs := h
theorem Reads.alloc (h : Reads w B size A n xs) (hB : B ≤ w.heap.size) (o : Obj) : Reads (w.alloc o) B size A n xs := h.keep fun p hp => World.cell?_alloc_lt w o p (by omega)
theorem Reads.setCell (h : Reads w B size A n xs) {p : Addr} (hB : B ≤ p.block) (u : Value) : Reads (w.setCell p u) B size A n xs :=
 h.keep fun q hq => World.cell?_setCell_other w p q u (fun e => by subst e; omega)
theorem Reads.grown (h : Reads w B size A n xs) {row : Option Nat} (hg : w.grownBy w' row) (hB : B ≤ w.heap.size) (hr : ∀ g, row = some g → B ≤ g) : Reads w' B size A n xs :=
 h.keep fun p hp => World.cell?_of_block (hg.block p.block (by omega) (fun e => by have := hr _ e.symm; omega))
theorem Reads.cut (h : Reads w B size A n xs) {k cap : Nat} (hk : k ≤ n) (hc : n ≤ cap) :
  Reads w B size (if cap = k then A else A.map (·.add (k * size))) (n - k) (xs.drop (k * size)) := by
 refine ⟨by rw [List.length_drop, h.1, Nat.sub_mul], fun hn => ?_⟩
 obtain ⟨ad, rfl, hb, hcell⟩ := h.2 (by omega)
 rw [if_neg (by omega)]
 refine ⟨ad.add (k * size), rfl, by rw [block_of_add]; exact hb, fun j u hu => ?_⟩
 rw [add_of_add]
 exact hcell _ u (by rw [← hu, List.getElem?_drop])
theorem Reads.of_own {base : Nat} {e : TypeId} {c : Nat} (h : w.ownsRow base e size (.slice A n c) n xs) : Reads w w.heap.size size A n xs := by
 refine ⟨h.1, fun hn => ?_⟩
 obtain ⟨g, cap, hv, _, hlt⟩ := h.form hn
 have hA : A = some ⟨g, 0, none⟩ := by injection hv
 subst hA
 exact ⟨_, rfl, hlt, h.cells (g := g) rfl⟩
end
def Blk (w : World) (g : Nat) (t : TypeId) (cs : Array Value) : Prop := w.heap[g]? = some (.cells cs t (0, 0))
section
variable {w w' : World} {g : Nat} {t : TypeId} {cs : Array Value}
theorem Blk.lt (h : Blk w g t cs) : g < w.heap.size := by
 rcases Nat.lt_or_ge g w.heap.size with hlt | hge
 ·exact hlt
 ·unfold Blk at h; rw [Array.getElem?_eq_none hge] at h; cases h
theorem Blk.cell (h : Blk w g t cs) (i : Nat) : w.cell? ⟨g, i, none⟩ = cs[i]? := cell_of_row w g i cs t (0, 0) h
theorem Blk.new (w : World) (t : TypeId) (cs : Array Value) : Blk (w.alloc (.cells cs t)) w.heap.size t cs := heap_alloc_new w _
theorem Blk.drew (h : Blk w g t cs) : Blk w.drew g t cs := h
theorem Blk.alloc (h : Blk w g t cs) (o : Obj) : Blk (w.alloc o) g t cs := (Below.heap_alloc w o g h.lt).trans h
theorem Blk.set_ (h : Blk w g t cs) (i : Nat) (u : Value) : Blk (w.setCell ⟨g, i, none⟩ u) g t (cs.setIfInBounds i u) := by
 unfold Blk at h ⊢
 simp [World.setCell, Array.getElem?_modify, h]
theorem Blk.below {B : Nat} (h : Blk w g t cs) (hb : Below B w w') (hg : g < B) : Blk w' g t cs := (hb.block g hg).trans h
theorem Blk.grown {row : Option Nat} (h : Blk w g t cs) (hb : w.grownBy w' row) (hg : some g ≠ row) : Blk w' g t cs := (hb.block g h.lt hg).trans h
end
section
variable {P : Program} (w : World)
theorem run_append_of_nil (base : Nat) (t ty e : TypeId) (i : TypeInfo) (size : Nat) (ht : P.underlying t = some (.slice e)) (hi : P.info? e = some i)
  (v : Value) (n : Nat) (xs : List Value) (hown : w.ownsRow base e size v n xs) (c : Nat) : (Builtin.append_ #[t, t] ty #[v, .slice none 0 c]).run P w = .ok v w := by
 rcases hown.2 with ⟨rfl, rfl⟩ | ⟨g, cap, cur, rfl, _, _, hnc, _⟩
 ·simp [Builtin.append_, run_underlying ht, sizeOf, typeInfo, hi, Builtin.lenOf, Builtin.firstCells]
 ·simp [Builtin.append_, run_underlying ht, sizeOf, typeInfo, hi, Builtin.lenOf, Builtin.firstCells, hnc, storeCells]
theorem run_append_any (base : Nat) (t ty e : TypeId) (i : TypeInfo) (z : Value) (size bytes : Nat) (ht : P.underlying t = some (.slice e)) (hi : P.info? e = some i) (hz : i.zero = some z)
  (hsize : i.size = size) (hby : i.bytes = bytes) (hzs : z.cells.size = size) (hsz : 0 < size)
  (v : Value) (n : Nat) (xs : List Value) (hown : w.ownsRow base e size v n xs)
  (B : Nat) (A : Option Addr) (m c : Nat) (news : List Value) (hr : Reads w B size A m news) (h1 : ∀ u ∈ news, u.oneCell' = true)
  (h63 : n + m ≤ maxLen) (hbytes : (n + m) * bytes ≤ 140737488355328) (hbase : base ≤ w.heap.size) :
  ∃ v' w', (Builtin.append_ #[t, t] ty #[v, .slice A m c]).run P w = .ok v' w' ∧ w'.ownsRow base e size v' (n + m) (xs ++ news) ∧ w.grownBy w' v.ownBlock ∧
   (v'.ownBlock = v.ownBlock ∨ v'.ownBlock = some w.heap.size) := by
 rcases A with _ | ad
 ·have hm : m = 0 := by
   rcases Nat.eq_zero_or_pos m with h0 | h0
   ·exact h0
   ·obtain ⟨ad, h, _⟩ := hr.2 h0
    cases h
  subst hm
  have hn : news = [] := List.eq_nil_of_length_eq_zero (by simpa using hr.1)
  subst hn
  exact ⟨v, w, run_append_of_nil w base t ty e i size ht hi v n xs hown c, by simpa using hown, World.grownBy.refl w _, .inl rfl⟩
 ·have hcells : ∀ j u, news[j]? = some u → w.cell? (ad.add j) = some u := by
   intro j u hu
   rcases Nat.eq_zero_or_pos m with h0 | h0
   ·subst h0
    have hn : news = [] := List.eq_nil_of_length_eq_zero (by simpa using hr.1)
    subst hn
    simp at hu
   ·obtain ⟨ad', h, _, hc⟩ := hr.2 h0
    injection h with h
    subst h
    exact hc j u hu
  obtain ⟨v', w', hrun, h2, h3, _, h5⟩ := run_append_own_at (P := P) w base t ty e i z size bytes ht hi hz hsize hby hzs hsz v n xs hown ad m c news hr.1 hcells h1 h63 hbytes hbase
  exact ⟨v', w', hrun, h2, h3, h5⟩
theorem wp_append_any {o : Oper} {a : Act} {K : Act → World → Prop} {Q : Exit → Act → World → Prop} (s x : Operand) (t : TypeId)
  (ho : o.op = .call { callee := .builtin .append, args := #[s, x], argTypes := #[t, t] })
  (base : Nat) (e : TypeId) (i : TypeInfo) (z : Value) (size bytes : Nat) (ht : P.underlying t = some (.slice e)) (hi : P.info? e = some i) (hz : i.zero = some z)
  (hsize : i.size = size) (hby : i.bytes = bytes) (hzs : z.cells.size = size) (hsz : 0 < size)
  (v : Value) (n : Nat) (xs : List Value) (hs : a.eval s = v) (hown : w.ownsRow base e size v n xs)
  (B : Nat) (A : Option Addr) (m c : Nat) (news : List Value) (hx : a.eval x = .slice A m c) (hr : Reads w B size A m news) (h1 : ∀ u ∈ news, u.oneCell' = true)
  (h63 : n + m ≤ maxLen) (hbytes : (n + m) * bytes ≤ 140737488355328) (hbase : base ≤ w.heap.size)
  (h : ∀ v' w', w'.ownsRow base e size v' (n + m) (xs ++ news) → w.grownBy w' v.ownBlock → (v'.ownBlock = v.ownBlock ∨ v'.ownBlock = some w.heap.size) → K (a.put o.dst v') w') : o.wp P a w K Q := by
 obtain ⟨v', w', hrun, h2, h3, h4⟩ := run_append_any (P := P) w base t o.type e i z size bytes ht hi hz hsize hby hzs hsz v n xs hown B A m c news hr h1 h63 hbytes hbase
 unfold Oper.wp execOp
 simp only [ho, resolve, invoke, builtin, Sem.run_bind, Sem.run_pure, Result.andThen_ok, List.map_toArray, List.map_cons, List.map_nil, hs, hx, hrun]
 exact h v' w' h2 h3 h4
theorem wpList_append_any {ops : Array Oper} {rest : List Oper} {o : Oper} {a : Act} {Q : Exit → Act → World → Prop} (hgd : o.guard = none) (s x : Operand) (t : TypeId)
  (ho : o.op = .call { callee := .builtin .append, args := #[s, x], argTypes := #[t, t] })
  (base : Nat) (e : TypeId) (i : TypeInfo) (z : Value) (size bytes : Nat) (ht : P.underlying t = some (.slice e)) (hi : P.info? e = some i) (hz : i.zero = some z)
  (hsize : i.size = size) (hby : i.bytes = bytes) (hzs : z.cells.size = size) (hsz : 0 < size)
  (v : Value) (n : Nat) (xs : List Value) (hs : a.eval s = v) (hown : w.ownsRow base e size v n xs)
  (B : Nat) (A : Option Addr) (m c : Nat) (news : List Value) (hx : a.eval x = .slice A m c) (hr : Reads w B size A m news) (h1 : ∀ u ∈ news, u.oneCell' = true)
  (h63 : n + m ≤ maxLen) (hbytes : (n + m) * bytes ≤ 140737488355328) (hbase : base ≤ w.heap.size)
  (h : ∀ v' w', w'.ownsRow base e size v' (n + m) (xs ++ news) → w.grownBy w' v.ownBlock → (v'.ownBlock = v.ownBlock ∨ v'.ownBlock = some w.heap.size) → wpList P ops Q rest (a.put o.dst v') w') : wpList P ops Q (o :: rest) a w :=
 wpList_plain hgd fun _ hK => wp_append_any w s x t ho base e i z size bytes ht hi hz hsize hby hzs hsz v n xs hs hown B A m c news hx hr h1 h63 hbytes hbase fun v' w' h2 h3 h4 => hK _ _ (h v' w' h2 h3 h4)
end
def IB (w : World) (g : Nat) (t : TypeId) (k : IntKind) (l : List Int) : Prop := Blk w g t (l.map (Value.int k)).toArray
section
variable {w w' : World} {g : Nat} {t : TypeId} {k : IntKind} {l : List Int}
theorem IB.lt (h : IB w g t k l) : g < w.heap.size := Blk.lt h
theorem IB.cell (h : IB w g t k l) {i : Nat} (hi : i < l.length) : w.cell? ⟨g, i, none⟩ = some (.int k (l.getD i 0)) := by
 rw [Blk.cell h]; simp [List.getD, hi]
theorem IB.congr {l' : List Int} (h : IB w g t k l) (e : l = l') : IB w g t k l' := e ▸ h
theorem IB.alloc (h : IB w g t k l) (o : Obj) : IB (w.alloc o) g t k l := Blk.alloc h o
theorem IB.drew (h : IB w g t k l) : IB w.drew g t k l := h
theorem IB.set (h : IB w g t k l) (i : Nat) (x : Int) : IB (w.setCell ⟨g, i, none⟩ (.int k x)) g t k (l.set i x) := by
 have := Blk.set_ h i (.int k x)
 unfold IB
 have e : ((l.map (Value.int k)).toArray).setIfInBounds i (.int k x) = ((l.set i x).map (Value.int k)).toArray := by
  rw [List.map_set]; simp
 rw [← e]; exact this
theorem IB.below {B : Nat} (h : IB w g t k l) (hb : Below B w w') (hg : g < B) : IB w' g t k l := Blk.below h hb hg
theorem IB.new (w : World) (t : TypeId) (k : IntKind) (l : List Int) : IB (w.alloc (.cells (l.map (Value.int k)).toArray t)) w.heap.size t k l := Blk.new w t _
end
section
variable {w w' : World} {row : Option Nat}
end
def IS (w : World) (g : Nat) (t : TypeId) (k : IntKind) (l : List Int) (sp : List Value) : Prop := Blk w g t (l.map (Value.int k) ++ sp).toArray
section
variable {w w' : World} {g : Nat} {t : TypeId} {k : IntKind} {l : List Int} {sp : List Value}
theorem IS.lt (h : IS w g t k l sp) : g < w.heap.size := Blk.lt h
theorem IS.cell (h : IS w g t k l sp) {i : Nat} (hi : i < l.length) : w.cell? ⟨g, i, none⟩ = some (.int k (l.getD i 0)) := by
 rw [Blk.cell h]; simp [List.getD, List.getElem?_append_left, hi]
theorem IS.alloc (h : IS w g t k l sp) (o : Obj) : IS (w.alloc o) g t k l sp := Blk.alloc h o
theorem IS.drew (h : IS w g t k l sp) : IS w.drew g t k l sp := h
theorem IS.set (h : IS w g t k l sp) {i : Nat} (hi : i < l.length) (x : Int) : IS (w.setCell ⟨g, i, none⟩ (.int k x)) g t k (l.set i x) sp := by
 have := Blk.set_ h i (.int k x)
 unfold IS
 have e : ((l.map (Value.int k) ++ sp).toArray).setIfInBounds i (.int k x) = ((l.set i x).map (Value.int k) ++ sp).toArray := by
  rw [List.map_set]; simp [hi]
 rw [← e]; exact this
theorem IS.below {B : Nat} (h : IS w g t k l sp) (hb : Below B w w') (hg : g < B) : IS w' g t k l sp := Blk.below h hb hg
end
def RI (w : World) (k : IntKind) (v : Value) (l : List Int) : Prop := ∃ A c, v = .slice A l.length c ∧ l.length ≤ c ∧ Reads w w.heap.size 1 A l.length (l.map (Value.int k))
def OI (w : World) (B : Nat) (t : TypeId) (k : IntKind) (v : Value) (l : List Int) : Prop := w.ownsRow B t 1 v l.length (l.map (Value.int k))
section
variable {w w' : World} {B : Nat} {t : TypeId} {k : IntKind} {v : Value} {l : List Int}
theorem RI.below (h : RI w k v l) (hb : Below w.heap.size w w') : RI w' k v l := by
 obtain ⟨A, c, e, hc, hr⟩ := h
 exact ⟨A, c, e, hc, (hr.below hb).more hb.size⟩
theorem OI.ri (h : OI w B t k v l) : RI w k v l := by
 unfold OI at h
 rcases h.2 with ⟨rfl, hn⟩ | ⟨g, cap, cur, rfl, _, _, hc, _⟩
 ·have : l = [] := List.eq_nil_of_length_eq_zero hn
  subst this
  exact ⟨none, 0, rfl, Nat.le_refl _, Reads.of_own h⟩
 ·exact ⟨_, cap, rfl, hc, Reads.of_own h⟩
theorem OI.below (h : OI w B t k v l) (hb : Below w.heap.size w w') : OI w' B t k v l :=
 World.ownsRow.kept h (row := none) ⟨hb.os, hb.tape, hb.output, hb.size, fun i hi _ => hb.block i hi⟩ (by cases e : v.ownBlock <;> simp)
theorem OI.nil (w : World) (B : Nat) (t : TypeId) (k : IntKind) : OI w B t k (.slice none 0 0) [] := World.ownsRow_nil w B t 1
theorem OI.mono {B' : Nat} (h : OI w B t k v l) (hB : B' ≤ B) : OI w B' t k v l := by
 refine ⟨h.1, ?_⟩
 rcases h.2 with h | ⟨g, cap, cur, e, hb, r⟩
 ·exact .inl h
 ·exact .inr ⟨g, cap, cur, e, by omega, r⟩
theorem OI.of_ib {g : Nat} (h : IB w g t k l) (hB : B ≤ g) (hm : l.length ≤ maxLen) : OI w B t k (.slice (some ⟨g, 0, none⟩) l.length l.length) l :=
 ⟨by simp, .inr ⟨g, l.length, _, rfl, hB, h, Nat.le_refl _, hm, by simp, by simp only [Nat.mul_one]; exact List.take_of_length_le (by simp)⟩⟩
theorem OI.open (h : OI w B t k v l) : (v = .slice none 0 0 ∧ l = []) ∨ ∃ g cap sp, v = .slice (some ⟨g, 0, none⟩) l.length cap ∧ B ≤ g ∧ l.length ≤ cap ∧ cap ≤ maxLen ∧ l.length + sp.length = cap ∧ IS w g t k l sp := by
 rcases h.2 with ⟨rfl, hn⟩ | ⟨g, cap, cur, rfl, hB, hg, hc, hm, hs, ht⟩
 ·exact .inl ⟨rfl, List.eq_nil_of_length_eq_zero hn⟩
 ·refine .inr ⟨g, cap, cur.toList.drop l.length, rfl, hB, hc, hm, by simp [hs]; omega, ?_⟩
  have e : (l.map (Value.int k) ++ cur.toList.drop l.length).toArray = cur := by
   rw [← ht]; simp
  unfold IS Blk
  rw [e]; exact hg
theorem OI.mk {g cap : Nat} {sp : List Value} (h : IS w g t k l sp) (hB : B ≤ g) (hc : l.length + sp.length = cap) (hm : cap ≤ maxLen) : OI w B t k (.slice (some ⟨g, 0, none⟩) l.length cap) l :=
 ⟨by simp, .inr ⟨g, cap, _, rfl, hB, h, by omega, hm, by simp [hc], by simp⟩⟩
theorem RI.one (w : World) (t : TypeId) (k : IntKind) (x : Int) : RI (w.alloc (.cells #[.int k x] t)) k (.slice (some ⟨w.heap.size, 0, none⟩) 1 1) [x] := by
 have h := OI.of_ib (B := 0) (IB.new w t k [x]) (Nat.zero_le _) (by simp [maxLen])
 exact h.ri
theorem RI.at_ {A : Option Addr} {n c : Nat} (h : RI w k (.slice A n c) l) {i : Nat} (hi : i < l.length) : n = l.length ∧ ∃ ad x, A = some ad ∧ l[i]? = some x ∧ w.cell? (ad.add i) = some (.int k x) := by
 obtain ⟨A', c', e, _, hr⟩ := h
 injection e with e1 e2 e3
 subst e1; subst e2
 obtain ⟨ad, y, rfl, _, hx, hcell⟩ := hr.at_ hi
 rw [List.getElem?_map] at hx
 cases h : l[i]? with
 | none => rw [h] at hx; simp at hx
 | some x => rw [h] at hx; simp at hx; exact ⟨rfl, ad, x, rfl, rfl, by rw [hx]; exact hcell⟩
theorem RI.slice_ {A : Option Addr} {n c i j : Nat} (h : RI w k (.slice A n c) l) (hij : i ≤ j) (hj : j ≤ n) :
  RI w k (.slice (if c = i then A else A.map (·.add i)) (j - i) (c - i)) ((l.drop i).take (j - i)) := by
 obtain ⟨A', c', e, hc, hr⟩ := h
 injection e with e1 e2 e3
 subst e1; subst e2; subst e3
 have hcut := hr.cut (k := i) (cap := c) (by omega) hc
 rw [Nat.mul_one] at hcut
 have hl : ((l.drop i).take (j - i)).length = j - i := by simp; omega
 refine ⟨_, c - i, by rw [hl], by rw [hl]; omega, ?_⟩
 rw [hl]
 refine ⟨by simp; omega, fun h0 => ?_⟩
 obtain ⟨ad, e, hb, hcell⟩ := hcut.2 (by omega)
 refine ⟨ad, e, hb, fun q u hq => hcell q u ?_⟩
 rw [← hq]
 rw [List.map_take, List.map_drop, List.getElem?_take]
 split
 ·rfl
 ·rename_i hge
  have hlt := (List.getElem?_eq_some_iff.1 hq).1
  simp at hlt; omega
theorem OI.lit (w : World) (t : TypeId) (k : IntKind) (l : List Int) (h : l.length ≤ 1000000) : OI (w.alloc (.cells (l.map (Value.int k)).toArray t)) w.heap.size t k (.slice (some ⟨w.heap.size, 0, none⟩) l.length l.length) l :=
 OI.of_ib (IB.new w t k l) (Nat.le_refl _) (by simp [maxLen]; omega)
theorem OI.form (h : OI w B t k v l) {n : Nat} (hn : l.length = n) (h0 : 0 < n) : ∃ g cap, v = .slice (some ⟨g, 0, none⟩) n cap ∧ B ≤ g ∧ n ≤ cap := by
 rcases h.open with ⟨_, rfl⟩ | ⟨g, cap, sp, rfl, hB, hc, _⟩
 ·simp at hn; omega
 ·rw [hn] at hc ⊢; exact ⟨g, cap, rfl, hB, hc⟩
theorem RI.take {A : Option Addr} {n c m : Nat} (h : RI w k (.slice A n c) l) (hm : m ≤ n) : RI w k (.slice A m c) (l.take m) := by
 have := h.slice_ (i := 0) (j := m) (Nat.zero_le _) hm
 rw [Nat.sub_zero, Nat.sub_zero, List.drop_zero] at this
 have e : (if c = 0 then A else A.map (·.add 0)) = A := by
  split
  ·rfl
  ·cases A <;> rfl
 rw [e] at this; exact this
theorem RI.len {A : Option Addr} {n c : Nat} (h : RI w k (.slice A n c) l) : n = l.length ∧ n ≤ c := by
 obtain ⟨A', c', e, hc, _⟩ := h
 injection e with e1 e2 e3
 subst e2; subst e3; exact ⟨rfl, hc⟩
theorem oneCell_ints {u : Value} (h : u ∈ l.map (Value.int k)) : u.oneCell' = true := by
 obtain ⟨x, _, rfl⟩ := List.mem_map.1 h; rfl
end
def RR (w : World) (k : IntKind) (v : Value) (ls : List (List Int)) : Prop :=
 ∃ (A : Option Addr) (c : Nat) (us : List Value), v = .slice A ls.length c ∧ ls.length ≤ c ∧ Reads w w.heap.size 1 A ls.length us ∧ ∀ (i : Nat) (u : Value) (l : List Int), us[i]? = some u → ls[i]? = some l → RI w k u l
section
variable {w w' : World} {k : IntKind} {v : Value} {ls : List (List Int)}
theorem RR.below (h : RR w k v ls) (hb : Below w.heap.size w w') : RR w' k v ls := by
 obtain ⟨A, c, us, e, hc, hr, hi⟩ := h
 exact ⟨A, c, us, e, hc, (hr.below hb).more hb.size, fun i u l h1 h2 => (hi i u l h1 h2).below hb⟩
theorem RR.at_ {A : Option Addr} {n c : Nat} (h : RR w k (.slice A n c) ls) {i : Nat} {l : List Int} (hi : ls[i]? = some l) : n = ls.length ∧ ∃ ad u, A = some ad ∧ w.cell? (ad.add i) = some u ∧ RI w k u l := by
 obtain ⟨A', c', us, e, _, hr, hri⟩ := h
 injection e with e1 e2 e3
 subst e1; subst e2
 have hlt := (List.getElem?_eq_some_iff.1 hi).1
 obtain ⟨ad, u, rfl, _, hx, hcell⟩ := hr.at_ hlt
 exact ⟨rfl, ad, u, rfl, hcell, hri i u l hx hi⟩
end
section
variable {P : Program} {w : World} {g : Nat} {t ty : TypeId} {cs : Array Value} {d : TypeDesc}
end
end Go.Chr
/- Numbers of four limbs: plain arithmetic. -/
namespace Go.Chr
def lb (x : Nat) (i : Nat) : Int := ((x / 2 ^ (64 * i) % 18446744073709551616 : Nat) : Int)
theorem lb_nn (x i : Nat) : 0 ≤ lb x i := by unfold lb; omega
theorem lb_lt (x i : Nat) : lb x i < 18446744073709551616 := by unfold lb; omega
theorem num_digits {x : Nat} (h : x < 115792089237316195423570985008687907853269984665640564039457584007913129639936) :
  (x : Int) = lb x 0 + 18446744073709551616 * lb x 1 + 340282366920938463463374607431768211456 * lb x 2 + 6277101735386680763835789423207666416102355444464034512896 * lb x 3 := by
 unfold lb
 have e1 : x / 2 ^ (64 * 1) = x / 18446744073709551616 := rfl
 have e2 : x / 2 ^ (64 * 2) = x / 18446744073709551616 / 18446744073709551616 := by rw [Nat.div_div_eq_div_mul]
 have e3 : x / 2 ^ (64 * 3) = x / 18446744073709551616 / 18446744073709551616 / 18446744073709551616 := by rw [Nat.div_div_eq_div_mul, Nat.div_div_eq_div_mul]
 have e0 : x / 2 ^ (64 * 0) = x := by simp
 rw [e0, e1, e2, e3]
 obtain ⟨y, hy⟩ : ∃ y, y = x / 18446744073709551616 := ⟨_, rfl⟩
 obtain ⟨z, hz⟩ : ∃ z, z = y / 18446744073709551616 := ⟨_, rfl⟩
 obtain ⟨u, hu⟩ : ∃ u, u = z / 18446744073709551616 := ⟨_, rfl⟩
 rw [← hy, ← hz, ← hu]
 have hu2 : u < 18446744073709551616 := by omega
 omega
theorem lb_is {z : Nat} {r0 r1 r2 r3 c : Int}
  (h : (z : Int) = r0 + 18446744073709551616 * r1 + 340282366920938463463374607431768211456 * r2 + 6277101735386680763835789423207666416102355444464034512896 * r3 + 115792089237316195423570985008687907853269984665640564039457584007913129639936 * c)
  (a0 : 0 ≤ r0) (b0 : r0 < 18446744073709551616) (a1 : 0 ≤ r1) (b1 : r1 < 18446744073709551616) (a2 : 0 ≤ r2) (b2 : r2 < 18446744073709551616) (a3 : 0 ≤ r3) (b3 : r3 < 18446744073709551616) :
  lb z 0 = r0 ∧ lb z 1 = r1 ∧ lb z 2 = r2 ∧ lb z 3 = r3 := by
 unfold lb
 have e1 : z / 2 ^ (64 * 1) = z / 18446744073709551616 := rfl
 have e2 : z / 2 ^ (64 * 2) = z / 18446744073709551616 / 18446744073709551616 := by rw [Nat.div_div_eq_div_mul]
 have e3 : z / 2 ^ (64 * 3) = z / 18446744073709551616 / 18446744073709551616 / 18446744073709551616 := by rw [Nat.div_div_eq_div_mul, Nat.div_div_eq_div_mul]
 have e0 : z / 2 ^ (64 * 0) = z := by simp
 rw [e0, e1, e2, e3]
 obtain ⟨t1, ht1⟩ : ∃ t, t = z / 18446744073709551616 := ⟨_, rfl⟩
 obtain ⟨t2, ht2⟩ : ∃ t, t = t1 / 18446744073709551616 := ⟨_, rfl⟩
 obtain ⟨t3, ht3⟩ : ∃ t, t = t2 / 18446744073709551616 := ⟨_, rfl⟩
 rw [← ht1, ← ht2, ← ht3]
 have k1 : (t1 : Int) = r1 + 18446744073709551616 * (r2 + 18446744073709551616 * (r3 + 18446744073709551616 * c)) := by omega
 have k2 : (t2 : Int) = r2 + 18446744073709551616 * (r3 + 18446744073709551616 * c) := by omega
 have k3 : (t3 : Int) = r3 + 18446744073709551616 * c := by omega
 refine ⟨?_, ?_, ?_, ?_⟩ <;> omega
theorem lb_inj {x y : Nat} (hx : x < 115792089237316195423570985008687907853269984665640564039457584007913129639936) (hy : y < 115792089237316195423570985008687907853269984665640564039457584007913129639936)
  (h0 : lb x 0 = lb y 0) (h1 : lb x 1 = lb y 1) (h2 : lb x 2 = lb y 2) (h3 : lb x 3 = lb y 3) : x = y := by
 have a := num_digits hx
 have b := num_digits hy
 rw [h0, h1, h2, h3] at a
 omega
theorem comb_sub {x y x0 x1 x2 x3 y0 y1 y2 y3 r0 r1 r2 r3 c1 c2 c3 c4 : Int}
  (a : x = x0 + 18446744073709551616 * x1 + 340282366920938463463374607431768211456 * x2 + 6277101735386680763835789423207666416102355444464034512896 * x3) (b : y = y0 + 18446744073709551616 * y1 + 340282366920938463463374607431768211456 * y2 + 6277101735386680763835789423207666416102355444464034512896 * y3)
  (f1 : x0 - y0 = r0 - 18446744073709551616 * c1) (f2 : x1 - y1 - c1 = r1 - 18446744073709551616 * c2) (f3 : x2 - y2 - c2 = r2 - 18446744073709551616 * c3) (f4 : x3 - y3 - c3 = r3 - 18446744073709551616 * c4) :
  x - y = r0 + 18446744073709551616 * r1 + 340282366920938463463374607431768211456 * r2 + 6277101735386680763835789423207666416102355444464034512896 * r3 - 115792089237316195423570985008687907853269984665640564039457584007913129639936 * c4 := by omega
theorem comb_add {x y x0 x1 x2 x3 y0 y1 y2 y3 r0 r1 r2 r3 c1 c2 c3 c4 : Int}
  (a : x = x0 + 18446744073709551616 * x1 + 340282366920938463463374607431768211456 * x2 + 6277101735386680763835789423207666416102355444464034512896 * x3) (b : y = y0 + 18446744073709551616 * y1 + 340282366920938463463374607431768211456 * y2 + 6277101735386680763835789423207666416102355444464034512896 * y3)
  (f1 : x0 + y0 = 18446744073709551616 * c1 + r0) (f2 : x1 + y1 + c1 = 18446744073709551616 * c2 + r1) (f3 : x2 + y2 + c2 = 18446744073709551616 * c3 + r2) (f4 : x3 + y3 + c3 = 18446744073709551616 * c4 + r3) :
  x + y = r0 + 18446744073709551616 * r1 + 340282366920938463463374607431768211456 * r2 + 6277101735386680763835789423207666416102355444464034512896 * r3 + 115792089237316195423570985008687907853269984665640564039457584007913129639936 * c4 := by omega
theorem digit_add (s : Int) : s = 18446744073709551616 * (s / 18446744073709551616) + s % 18446744073709551616 ∧ 0 ≤ s % 18446744073709551616 ∧ s % 18446744073709551616 < 18446744073709551616 := by omega
theorem top_bd {r0 r1 r2 r3 : Int} (a0 : 0 ≤ r0) (b0 : r0 < 18446744073709551616) (a1 : 0 ≤ r1) (b1 : r1 < 18446744073709551616) (a2 : 0 ≤ r2) (b2 : r2 < 18446744073709551616) (a3 : 0 ≤ r3) (b3 : r3 < 18446744073709551616) :
  0 ≤ r0 + 18446744073709551616 * r1 + 340282366920938463463374607431768211456 * r2 + 6277101735386680763835789423207666416102355444464034512896 * r3 ∧ r0 + 18446744073709551616 * r1 + 340282366920938463463374607431768211456 * r2 + 6277101735386680763835789423207666416102355444464034512896 * r3 < 115792089237316195423570985008687907853269984665640564039457584007913129639936 := by omega
theorem div_top {z : Nat} {l c : Int} (h : (z : Int) = l + 115792089237316195423570985008687907853269984665640564039457584007913129639936 * c) (a : 0 ≤ l) (b : l < 115792089237316195423570985008687907853269984665640564039457584007913129639936) : c = ((z / 115792089237316195423570985008687907853269984665640564039457584007913129639936 : Nat) : Int) := by omega
theorem lb_add {x y : Nat} (hx : x < 115792089237316195423570985008687907853269984665640564039457584007913129639936) (hy : y < 115792089237316195423570985008687907853269984665640564039457584007913129639936)
  {c1 c2 c3 c4 : Int} (e1 : c1 = (lb x 0 + lb y 0) / 18446744073709551616) (e2 : c2 = (lb x 1 + lb y 1 + c1) / 18446744073709551616) (e3 : c3 = (lb x 2 + lb y 2 + c2) / 18446744073709551616) (e4 : c4 = (lb x 3 + lb y 3 + c3) / 18446744073709551616) :
  (lb (x + y) 0 = (lb x 0 + lb y 0) % 18446744073709551616 ∧ lb (x + y) 1 = (lb x 1 + lb y 1 + c1) % 18446744073709551616 ∧ lb (x + y) 2 = (lb x 2 + lb y 2 + c2) % 18446744073709551616 ∧ lb (x + y) 3 = (lb x 3 + lb y 3 + c3) % 18446744073709551616) ∧
  c4 = (((x + y) / 115792089237316195423570985008687907853269984665640564039457584007913129639936 : Nat) : Int) := by
 obtain ⟨f1, p1, q1⟩ := digit_add (lb x 0 + lb y 0)
 obtain ⟨f2, p2, q2⟩ := digit_add (lb x 1 + lb y 1 + c1)
 obtain ⟨f3, p3, q3⟩ := digit_add (lb x 2 + lb y 2 + c2)
 obtain ⟨f4, p4, q4⟩ := digit_add (lb x 3 + lb y 3 + c3)
 rw [← e1] at f1
 rw [← e2] at f2
 rw [← e3] at f3
 rw [← e4] at f4
 have hs := comb_add (num_digits hx) (num_digits hy) f1 f2 f3 f4
 have hs : ((x + y : Nat) : Int) = _ := (Int.natCast_add x y).trans hs
 obtain ⟨t1, t2⟩ := top_bd p1 q1 p2 q2 p3 q3 p4 q4
 exact ⟨lb_is hs p1 q1 p2 q2 p3 q3 p4 q4, div_top hs t1 t2⟩
theorem carry_dec (z : Nat) : (((z / 115792089237316195423570985008687907853269984665640564039457584007913129639936 : Nat) : Int) != 0) = decide (115792089237316195423570985008687907853269984665640564039457584007913129639936 ≤ z) := by
 rw [Bool.eq_iff_iff]; simp only [bne_iff_ne, ne_eq, decide_eq_true_eq]; omega
def bor (x y : Int) : Int := if x < y then 1 else 0
theorem bor_01 (x y : Int) : 0 ≤ bor x y ∧ bor x y ≤ 1 := by unfold bor; split <;> omega
theorem digit_sub {x y : Int} (x0 : 0 ≤ x) (x1 : x < 18446744073709551616) (y0 : 0 ≤ y) (y1 : y ≤ 18446744073709551616) : x - y = (x - y) % 18446744073709551616 - 18446744073709551616 * bor x y ∧ 0 ≤ (x - y) % 18446744073709551616 ∧ (x - y) % 18446744073709551616 < 18446744073709551616 := by
 unfold bor; split <;> omega
theorem digit_sub' {x y c : Int} (x0 : 0 ≤ x) (x1 : x < 18446744073709551616) (y0 : 0 ≤ y) (y1 : y < 18446744073709551616) (c0 : 0 ≤ c) (c1 : c ≤ 1) : x - y - c = (x - y - c) % 18446744073709551616 - 18446744073709551616 * bor x (y + c) ∧ 0 ≤ (x - y - c) % 18446744073709551616 ∧ (x - y - c) % 18446744073709551616 < 18446744073709551616 := by
 have := digit_sub x0 x1 (y := y + c) (by omega) (by omega)
 rwa [show x - (y + c) = x - y - c by omega] at this
theorem top_sub {x y l c : Int} (h : x - y = l - 115792089237316195423570985008687907853269984665640564039457584007913129639936 * c) (l0 : 0 ≤ l) (l1 : l < 115792089237316195423570985008687907853269984665640564039457584007913129639936) (c0 : 0 ≤ c) (c1 : c ≤ 1) (x0 : 0 ≤ x) (y0 : 0 ≤ y) (y1 : y < 115792089237316195423570985008687907853269984665640564039457584007913129639936) (x1 : x < 115792089237316195423570985008687907853269984665640564039457584007913129639936) : c = if x < y then 1 else 0 := by
 split <;> omega
theorem cast_lt {x : Nat} (h : x < 115792089237316195423570985008687907853269984665640564039457584007913129639936) : (x : Int) < 115792089237316195423570985008687907853269984665640564039457584007913129639936 := by omega
theorem wrap_top {z d l c : Int} (h : z = 115792089237316195423570985008687907853269984665640564039457584007913129639936 + d) (hd : d = l - 115792089237316195423570985008687907853269984665640564039457584007913129639936 * c) : z = l + 115792089237316195423570985008687907853269984665640564039457584007913129639936 * (1 - c) := by omega
theorem lb_sub {x y z : Nat} (hx : x < 115792089237316195423570985008687907853269984665640564039457584007913129639936) (hy : y < 115792089237316195423570985008687907853269984665640564039457584007913129639936)
  {c1 c2 c3 c4 : Int} (e1 : c1 = bor (lb x 0) (lb y 0)) (e2 : c2 = bor (lb x 1) (lb y 1 + c1)) (e3 : c3 = bor (lb x 2) (lb y 2 + c2)) (e4 : c4 = bor (lb x 3) (lb y 3 + c3)) (hz : (z : Int) = 115792089237316195423570985008687907853269984665640564039457584007913129639936 + (x - y)) :
  (lb z 0 = (lb x 0 - lb y 0) % 18446744073709551616 ∧ lb z 1 = (lb x 1 - lb y 1 - c1) % 18446744073709551616 ∧ lb z 2 = (lb x 2 - lb y 2 - c2) % 18446744073709551616 ∧ lb z 3 = (lb x 3 - lb y 3 - c3) % 18446744073709551616) ∧
  c4 = if x < y then 1 else 0 := by
 have k1 := bor_01 (lb x 0) (lb y 0)
 rw [← e1] at k1
 have k2 := bor_01 (lb x 1) (lb y 1 + c1)
 rw [← e2] at k2
 have k3 := bor_01 (lb x 2) (lb y 2 + c2)
 rw [← e3] at k3
 have k4 := bor_01 (lb x 3) (lb y 3 + c3)
 rw [← e4] at k4
 obtain ⟨f1, p1, q1⟩ := digit_sub (lb_nn x 0) (lb_lt x 0) (lb_nn y 0) (Int.le_of_lt (lb_lt y 0))
 obtain ⟨f2, p2, q2⟩ := digit_sub' (lb_nn x 1) (lb_lt x 1) (lb_nn y 1) (lb_lt y 1) k1.1 k1.2
 obtain ⟨f3, p3, q3⟩ := digit_sub' (lb_nn x 2) (lb_lt x 2) (lb_nn y 2) (lb_lt y 2) k2.1 k2.2
 obtain ⟨f4, p4, q4⟩ := digit_sub' (lb_nn x 3) (lb_lt x 3) (lb_nn y 3) (lb_lt y 3) k3.1 k3.2
 rw [← e1] at f1
 rw [← e2] at f2
 rw [← e3] at f3
 rw [← e4] at f4
 have hd := comb_sub (num_digits hx) (num_digits hy) f1 f2 f3 f4
 obtain ⟨t1, t2⟩ := top_bd p1 q1 p2 q2 p3 q3 p4 q4
 generalize (lb x 0 - lb y 0) % 18446744073709551616 = r0 at *
 generalize (lb x 1 - lb y 1 - c1) % 18446744073709551616 = r1 at *
 generalize (lb x 2 - lb y 2 - c2) % 18446744073709551616 = r2 at *
 generalize (lb x 3 - lb y 3 - c3) % 18446744073709551616 = r3 at *
 have hs := wrap_top hz hd
 refine ⟨lb_is hs p1 q1 p2 q2 p3 q3 p4 q4, ?_⟩
 have := top_sub hd t1 t2 k4.1 k4.2 (Int.natCast_nonneg x) (Int.natCast_nonneg y) (cast_lt hy) (cast_lt hx)
 rw [this]
 by_cases h : x < y
 ·rw [if_pos h, if_pos (Int.ofNat_lt.2 h)]
 ·rw [if_neg h, if_neg (fun h' => h (Int.ofNat_lt.1 h'))]
theorem lb_lt_iff {x y : Nat} (hx : x < 115792089237316195423570985008687907853269984665640564039457584007913129639936) (hy : y < 115792089237316195423570985008687907853269984665640564039457584007913129639936) :
  (lb x 3 < lb y 3 → x < y) ∧ (lb x 3 = lb y 3 → lb x 2 < lb y 2 → x < y) ∧ (lb x 3 = lb y 3 → lb x 2 = lb y 2 → lb x 1 < lb y 1 → x < y) ∧ (lb x 3 = lb y 3 → lb x 2 = lb y 2 → lb x 1 = lb y 1 → lb x 0 < lb y 0 → x < y) := by
 have a := num_digits hx
 have b := num_digits hy
 have u0 := lb_nn x 0; have u1 := lb_nn x 1; have u2 := lb_nn x 2; have u3 := lb_nn x 3
 have v0 := lb_nn y 0; have v1 := lb_nn y 1; have v2 := lb_nn y 2; have v3 := lb_nn y 3
 have s0 := lb_lt x 0; have s1 := lb_lt x 1; have s2 := lb_lt x 2; have s3 := lb_lt x 3
 have t0 := lb_lt y 0; have t1 := lb_lt y 1; have t2 := lb_lt y 2; have t3 := lb_lt y 3
 refine ⟨?_, ?_, ?_, ?_⟩ <;> intros <;> omega
theorem lb_modK (z : Nat) {i : Nat} (hi : i < 4) : lb (z % 115792089237316195423570985008687907853269984665640564039457584007913129639936) i = lb z i := by
 unfold lb
 congr 1
 have e := Nat.mod_mul_right_div_self z (2 ^ (64 * i)) (2 ^ (256 - 64 * i))
 rw [← Nat.pow_add, show 64 * i + (256 - 64 * i) = 256 by omega] at e
 rw [show (115792089237316195423570985008687907853269984665640564039457584007913129639936 : Nat) = 2 ^ 256 from rfl, e]
 refine Nat.mod_mod_of_dvd _ ?_
 rw [show (18446744073709551616 : Nat) = 2 ^ 64 from rfl]
 exact Nat.pow_dvd_pow 2 (by omega)
end Go.Chr
/- Values, as the abstract machine has them. -/
namespace Go.Ab
open Go Go.Chr
inductive Tag where
 | int (k : IntKind)
 | bool
 | str
 | nat (m : Nat)
 | arr (k : IntKind) (n : Nat)
 | nl
 | pr (a b : Tag)
 | ints (k : IntKind)
 | rows (sz : Nat) (t : Tag)
 deriving DecidableEq
def El : Tag → Type
 | .int _ => Int
 | .bool => Bool
 | .str => List Int
 | .nat _ => Nat
 | .arr _ _ => List Int
 | .nl => Unit
 | .pr a b => El a × El b
 | .ints _ => List Int
 | .rows _ t => List (El t)
def dEl : (t : Tag) → El t
 | .int _ => (0 : Int)
 | .bool => false
 | .str => ([] : List Int)
 | .nat _ => (0 : Nat)
 | .arr _ _ => ([] : List Int)
 | .nl => ()
 | .pr a b => (dEl a, dEl b)
 | .ints _ => ([] : List Int)
 | .rows _ t => ([] : List (El t))
inductive CV : Type 1 where
 | int (k : IntKind) (n : Int)
 | bool (b : Bool)
 | str (l : List Int)
 | raw (v : Value)
 | nat (m x : Nat)
 | arr (k : IntKind) (n : Nat) (l : List Int)
 | nl
 | pr (a b : CV)
 | ints (k : IntKind) (l : List Int)
 | rows (sz : Nat) (t : Tag) (xs : List (El t))
def toCV : (t : Tag) → El t → CV
 | .int k, n => .int k n
 | .bool, b => .bool b
 | .str, l => .str l
 | .nat m, x => .nat m x
 | .arr k n, l => .arr k n l
 | .nl, _ => .nl
 | .pr a b, p => .pr (toCV a p.1) (toCV b p.2)
 | .ints k, l => .ints k l
 | .rows sz t, xs => .rows sz t xs
def CV.size : CV → Nat
 | .nat _ _ => 4
 | .arr _ n _ => n
 | .nl => 0
 | .pr a b => a.size + b.size
 | _ => 1
def CV.isAgg : CV → Bool
 | .nat _ _ => true
 | .arr _ _ _ => true
 | .nl => true
 | .pr _ _ => true
 | _ => false
def CV.esz : CV → Nat
 | .rows sz _ _ => sz
 | _ => 1
def bytesOf (s : ByteArray) : List Int := s.data.toList.map fun b => (b.toNat : Int)
def natL (x : Nat) : List Int := [lb x 0, lb x 1, lb x 2, lb x 3]
def two256 : Nat := 115792089237316195423570985008687907853269984665640564039457584007913129639936
def okI (k : IntKind) (n : Int) : Prop := k ≠ .i64 → k.has n
def relList.{u} {α : Type u} (sz : Nat) (p : α → List Value → Prop) : List α → List Value → Prop
 | [], cs => cs = []
 | a :: as, cs => ∃ c1 c2, cs = c1 ++ c2 ∧ c1.length = sz ∧ p a c1 ∧ relList sz p as c2
def SliceOf (N : Nat → Prop) (w : World) (n : Nat) (xs cs : List Value) : Prop :=
 ∃ A c, cs = [.slice A n c] ∧ n ≤ c ∧ (0 < n → ∃ ad, A = some ad ∧ N ad.block ∧ ∀ j u, xs[j]? = some u → w.cell? (ad.add j) = some u)
def natRel (m x : Nat) (cs : List Value) : Prop := cs = (natL x).map (.int .u64) ∧ x < m ∧ m ≤ two256
def arrRel (k : IntKind) (n : Nat) (l : List Int) (cs : List Value) : Prop := cs = l.map (.int k) ∧ l.length = n ∧ ∀ x ∈ l, okI k x
def intsRel (N : Nat → Prop) (w : World) (k : IntKind) (l : List Int) (cs : List Value) : Prop := SliceOf N w l.length (l.map (.int k)) cs ∧ ∀ x ∈ l, okI k x
def Tag.rel (N : Nat → Prop) (w : World) : (t : Tag) → El t → List Value → Prop
 | .int k, n, cs => cs = [.int k n] ∧ okI k n
 | .bool, b, cs => cs = [.bool b]
 | .str, l, cs => ∃ s, cs = [.string s] ∧ l = bytesOf s
 | .nat m, x, cs => natRel m x cs
 | .arr k n, l, cs => arrRel k n l cs
 | .nl, _, cs => cs = []
 | .pr a b, p, cs => ∃ c1 c2, cs = c1 ++ c2 ∧ a.rel N w p.1 c1 ∧ b.rel N w p.2 c2
 | .ints k, l, cs => intsRel N w k l cs
 | .rows sz t, xs, cs => ∃ ys, relList sz (fun a => t.rel N w a) xs ys ∧ SliceOf N w (List.length xs) ys cs
def CV.rel (N : Nat → Prop) (w : World) : CV → List Value → Prop
 | .int k n, cs => cs = [.int k n] ∧ okI k n
 | .bool b, cs => cs = [.bool b]
 | .str l, cs => ∃ s, cs = [.string s] ∧ l = bytesOf s
 | .raw v, cs => cs = [v] ∧ v.oneCell' = true
 | .nat m x, cs => cs = (natL x).map (.int .u64) ∧ x < m ∧ m ≤ two256
 | .arr k n l, cs => cs = l.map (.int k) ∧ l.length = n ∧ ∀ x ∈ l, okI k x
 | .nl, cs => cs = []
 | .pr a b, cs => ∃ c1 c2, cs = c1 ++ c2 ∧ a.rel N w c1 ∧ b.rel N w c2
 | .ints k l, cs => SliceOf N w l.length (l.map (.int k)) cs ∧ ∀ x ∈ l, okI k x
 | .rows sz t xs, cs => ∃ ys, relList sz (fun a => t.rel N w a) xs ys ∧ SliceOf N w xs.length ys cs
theorem toCV_rel {N : Nat → Prop} {w : World} : ∀ (t : Tag) (a : El t) (cs : List Value), (toCV t a).rel N w cs ↔ t.rel N w a cs
 | .int _, _, _ => Iff.rfl
 | .bool, _, _ => Iff.rfl
 | .str, _, _ => Iff.rfl
 | .nat _, _, _ => Iff.rfl
 | .arr _ _, _, _ => Iff.rfl
 | .nl, _, _ => Iff.rfl
 | .pr a b, p, cs => by
  unfold toCV CV.rel Tag.rel
  simp only [toCV_rel a, toCV_rel b]
 | .ints _, _, _ => Iff.rfl
 | .rows _ _, _, _ => Iff.rfl
section
variable {N N' : Nat → Prop} {w w' : World}
theorem relList_mono.{u} {α : Type u} {sz : Nat} {p q : α → List Value → Prop} (h : ∀ a cs, p a cs → q a cs) : ∀ {xs : List α} {cs : List Value}, relList sz p xs cs → relList sz q xs cs
 | [], _, e => e
 | _ :: _, _, ⟨c1, c2, e, hs, ha, ht⟩ => ⟨c1, c2, e, hs, h _ _ ha, relList_mono h ht⟩
theorem relList_len.{u} {α : Type u} {sz : Nat} {p : α → List Value → Prop} : ∀ {xs : List α} {cs : List Value}, relList sz p xs cs → cs.length = xs.length * sz
 | [], _, e => by rw [e]; simp
 | _ :: xs, _, ⟨c1, c2, e, hs, _, ht⟩ => by
  rw [e, List.length_append, hs, relList_len ht, List.length_cons, Nat.add_mul]; omega
theorem SliceOf.mono {n : Nat} {xs cs : List Value} (hN : ∀ k, N k → N' k) (hw : ∀ k, N k → w'.heap[k]? = w.heap[k]?) (h : SliceOf N w n xs cs) : SliceOf N' w' n xs cs := by
 obtain ⟨A, c, e, hc, h⟩ := h
 refine ⟨A, c, e, hc, fun h0 => ?_⟩
 obtain ⟨ad, e, hb, hcell⟩ := h h0
 refine ⟨ad, e, hN _ hb, fun j u hu => ?_⟩
 rw [← hcell j u hu]
 exact World.cell?_of_block (by rw [block_of_add]; exact hw _ hb)
theorem Tag.rel_mono (hN : ∀ k, N k → N' k) (hw : ∀ k, N k → w'.heap[k]? = w.heap[k]?) : ∀ {t : Tag} {a : El t} {cs : List Value}, t.rel N w a cs → t.rel N' w' a cs
 | .int _, _, _, h => h
 | .bool, _, _, h => h
 | .str, _, _, h => h
 | .nat _, _, _, h => h
 | .arr _ _, _, _, h => h
 | .nl, _, _, h => h
 | .pr _ _, _, _, ⟨c1, c2, e, h1, h2⟩ => ⟨c1, c2, e, Tag.rel_mono hN hw h1, Tag.rel_mono hN hw h2⟩
 | .ints _, _, _, ⟨h1, h2⟩ => ⟨h1.mono hN hw, h2⟩
 | .rows _ _, _, _, ⟨ys, h1, h2⟩ => ⟨ys, relList_mono (fun _ _ h => Tag.rel_mono hN hw h) h1, h2.mono hN hw⟩
theorem CV.rel.mono (hN : ∀ k, N k → N' k) (hw : ∀ k, N k → w'.heap[k]? = w.heap[k]?) : ∀ {a : CV} {cs : List Value}, a.rel N w cs → a.rel N' w' cs
 | .int _ _, _, h => h
 | .bool _, _, h => h
 | .str _, _, h => h
 | .raw _, _, h => h
 | .nat _ _, _, h => h
 | .arr _ _ _, _, h => h
 | .nl, _, h => h
 | .pr _ _, _, ⟨c1, c2, e, h1, h2⟩ => ⟨c1, c2, e, h1.mono hN hw, h2.mono hN hw⟩
 | .ints _ _, _, ⟨h1, h2⟩ => ⟨h1.mono hN hw, h2⟩
 | .rows _ _ _, _, ⟨ys, h1, h2⟩ => ⟨ys, relList_mono (fun a _ h => Tag.rel_mono hN hw h) h1, h2.mono hN hw⟩
theorem CV.rel.len : ∀ {a : CV} {cs : List Value}, a.rel N w cs → cs.length = a.size
 | .int _ _, _, h => by rw [h.1]; rfl
 | .bool _, _, h => by rw [h]; rfl
 | .str _, _, ⟨s, h, _⟩ => by rw [h]; rfl
 | .raw _, _, h => by rw [h.1]; rfl
 | .nat _ _, _, h => by rw [h.1]; rfl
 | .arr _ _ _, _, ⟨h, hl, _⟩ => by rw [h, List.length_map, hl]; rfl
 | .nl, _, h => by rw [h]; rfl
 | .pr a b, _, ⟨c1, c2, e, h1, h2⟩ => by rw [e, List.length_append, h1.len, h2.len]; rfl
 | .ints _ _, _, ⟨⟨_, _, h, _⟩, _⟩ => by rw [h]; rfl
 | .rows _ _ _, _, ⟨_, _, ⟨_, _, h, _⟩⟩ => by rw [h]; rfl
theorem CV.rel.one : ∀ {a : CV} {cs : List Value}, a.rel N w cs → ∀ u ∈ cs, u.oneCell' = true
 | .int _ _, _, h => by rw [h.1]; intro u hu; simp at hu; subst hu; rfl
 | .bool _, _, h => by rw [h]; intro u hu; simp at hu; subst hu; rfl
 | .str _, _, ⟨s, h, _⟩ => by rw [h]; intro u hu; simp at hu; subst hu; rfl
 | .raw _, _, h => by rw [h.1]; intro u hu; simp at hu; subst hu; exact h.2
 | .nat _ _, _, h => by rw [h.1]; intro u hu; exact oneCell_ints hu
 | .arr _ _ _, _, ⟨h, _, _⟩ => by rw [h]; intro u hu; exact oneCell_ints hu
 | .nl, _, h => by rw [h]; intro u hu; cases hu
 | .pr a b, _, ⟨c1, c2, e, h1, h2⟩ => by
  rw [e]; intro u hu
  rcases List.mem_append.1 hu with hu | hu
  ·exact h1.one u hu
  ·exact h2.one u hu
 | .ints _ _, _, ⟨⟨_, _, h, _⟩, _⟩ => by rw [h]; intro u hu; simp at hu; subst hu; rfl
 | .rows _ _ _, _, ⟨_, _, ⟨_, _, h, _⟩⟩ => by rw [h]; intro u hu; simp at hu; subst hu; rfl
end
structure Loc where
 blk : Nat
 off : Nat
 tot : Nat
 len : Nat
 ph : Bool := false
inductive Base where
 | l (n : Nat)
 | g (n : Nat)
inductive Hk where
 | opt (esz : Nat)
 | mp
def Hk.rel : Hk → Loc → List Value → Prop
 | .opt esz, L, cs => (L.ph = true ∧ cs = [.pointer none]) ∨ (L.ph = false ∧ 0 < L.len ∧ 0 < esz ∧ cs = [.pointer (some ⟨L.blk, L.off, none⟩)])
 | .mp, L, cs => L.ph = false ∧ cs = [.map (some L.blk)]
theorem Hk.rel_one : ∀ {k : Hk} {L : Loc} {cs : List Value}, k.rel L cs → ∃ v, cs = [v] ∧ v.oneCell' = true
 | .opt _, _, _, .inl ⟨_, e⟩ => ⟨_, e, rfl⟩
 | .opt _, _, _, .inr ⟨_, _, _, e⟩ => ⟨_, e, rfl⟩
 | .mp, _, _, ⟨_, e⟩ => ⟨_, e, rfl⟩
inductive AV : Type 1 where
 | c (v : CV)
 | ptr (b : Base) (i esz off : Nat)
 | cp (v : CV) (i off : Nat)
 | own (b esz n : Nat)
 | sub (b esz i n : Nat)
 | inn (b : Base) (i esz off sz n : Nat)
 | pr (a b : AV)
 | t0
 | t2 (a b : AV)
 | t3 (a b c : AV)
 | fn (f : FuncId) (caps : AV)
 | hd (k : Hk) (b : Nat)
def AV.size : AV → Nat
 | .c v => v.size
 | .pr a b => a.size + b.size
 | _ => 1
def AV.isAgg : AV → Bool
 | .c v => v.isAgg
 | .pr _ _ => true
 | _ => false
def AV.flat : AV → Bool
 | .t0 => false
 | .t2 _ _ => false
 | .t3 _ _ _ => false
 | .pr a b => a.flat && b.flat
 | _ => true
def locOf (ι : Nat → Option Loc) : Base → Option Loc
 | .l n => ι n
 | .g n => some ⟨n, 0, 0, 1, false⟩
def asVal (agg : Bool) (p : List Value → Prop) (v : Value) : Prop := match agg with
 | true => ∃ x : List Value, v = .agg x.toArray ∧ p x
 | false => p [v]
def fnFirst (g : Nat) (u : List Value) : Array Value := bif Nat.beq (g % 4) 0 then #[] else bif Nat.beq (g % 4) 1 then u.toArray else #[.agg u.toArray]
def fnCaps (g : Nat) (u : List Value) : Array Value := bif Nat.beq (g % 4) 0 then u.toArray else #[]
def fnVal (g : Nat) (u : List Value) : Value := .func (.func (g / 4)) (fnFirst g u) (fnCaps g u)
theorem fm0 (f : Nat) : 4 * f % 4 = 0 ∧ 4 * f / 4 = f := by omega
theorem fm1 (f : Nat) : (4 * f + 1) % 4 = 1 ∧ (4 * f + 1) / 4 = f := by omega
theorem fm2 (f : Nat) : (4 * f + 2) % 4 = 2 ∧ (4 * f + 2) / 4 = f := by omega
def AV.rel (ι : Nat → Option Loc) (N : Nat → Prop) (w : World) : AV → List Value → Prop
 | .c v, cs => v.rel N w cs
 | .ptr b i esz off, cs => ∃ L, locOf ι b = some L ∧ i < L.len ∧ off < esz ∧ cs = [.pointer (some ⟨L.blk, L.off + (i * esz + off), none⟩)]
 | .cp v i off, cs => ∃ ad n c, v.rel N w [.slice (some ad) n c] ∧ i < n ∧ off < v.esz ∧ cs = [.pointer (some (ad.add (i * v.esz + off)))]
 | .own b esz n, cs => ∃ L, ι b = some L ∧ L.len = n ∧ ((L.ph = true ∧ n = 0 ∧ ∃ A, cs = [.slice A 0 0]) ∨ (L.ph = false ∧ ∃ c, cs = [.slice (some ⟨L.blk, L.off, none⟩) n c] ∧ n ≤ c ∧ L.off + c * esz ≤ L.tot))
 | .sub b esz i n, cs => ∃ L, ι b = some L ∧ i + n ≤ L.len ∧ ((L.ph = true ∧ n = 0 ∧ ∃ A, cs = [.slice A 0 0]) ∨ (L.ph = false ∧ ∃ A c, cs = [.slice (some A) n c] ∧ n ≤ c ∧ A.block = L.blk ∧ A.spot = none ∧ (0 < c → A.off = L.off + i * esz ∧ A.off + c * esz ≤ L.tot)))
 | .inn b i esz off sz n, cs => ∃ L A c, locOf ι b = some L ∧ i < L.len ∧ off + n * sz ≤ esz ∧ cs = [.slice (some A) n c] ∧ n ≤ c ∧ A.block = L.blk ∧ A.spot = none ∧ (0 < c → A.off = L.off + (i * esz + off))
 | .pr a b, cs => ∃ c1 c2, cs = c1 ++ c2 ∧ a.rel ι N w c1 ∧ b.rel ι N w c2
 | .t0, cs => cs = [.tuple #[]]
 | .t2 a b, cs => ∃ v1 v2, cs = [.tuple #[v1, v2]] ∧ asVal a.isAgg (fun x => a.rel ι N w x) v1 ∧ asVal b.isAgg (fun x => b.rel ι N w x) v2
 | .t3 a b e3, cs => ∃ v1 v2 v3, cs = [.tuple #[v1, v2, v3]] ∧ asVal a.isAgg (fun x => a.rel ι N w x) v1 ∧ asVal b.isAgg (fun x => b.rel ι N w x) v2 ∧ asVal e3.isAgg (fun x => e3.rel ι N w x) v3
 | .fn g caps, cs => ∃ vs, cs = [fnVal g vs] ∧ caps.rel ι N w vs
 | .hd k b, cs => ∃ L, ι b = some L ∧ k.rel L cs
def AV.val (ι : Nat → Option Loc) (N : Nat → Prop) (w : World) (a : AV) (v : Value) : Prop := asVal a.isAgg (a.rel ι N w) v
section
variable {ι ι' : Nat → Option Loc} {N N' : Nat → Prop} {w w' : World}
theorem asVal.mono {b : Bool} {p q : List Value → Prop} {v : Value} (h : ∀ x, p x → q x) (hv : asVal b p v) : asVal b q v := by
 cases b with
 | true => obtain ⟨x, e, hx⟩ := hv; exact ⟨x, e, h _ hx⟩
 | false => exact h _ hv
theorem locOf_mono (hι : ∀ b L, ι b = some L → ι' b = some L) : ∀ {b : Base} {L : Loc}, locOf ι b = some L → locOf ι' b = some L
 | .l _, _, h => hι _ _ h
 | .g _, _, h => h
theorem AV.rel.mono (hι : ∀ b L, ι b = some L → ι' b = some L) (hN : ∀ k, N k → N' k) (hw : ∀ k, N k → w'.heap[k]? = w.heap[k]?) :
  ∀ {a : AV} {cs : List Value}, a.rel ι N w cs → a.rel ι' N' w' cs
 | .c v, _, h => CV.rel.mono hN hw (a := v) h
 | .ptr _ _ _ _, _, ⟨L, h, r⟩ => ⟨L, locOf_mono hι h, r⟩
 | .cp _ _ _, _, ⟨ad, n, cc, h, r⟩ => ⟨ad, n, cc, h.mono hN hw, r⟩
 | .own _ _ _, _, ⟨L, h, r⟩ => ⟨L, hι _ _ h, r⟩
 | .sub _ _ _ _, _, ⟨L, h, r⟩ => ⟨L, hι _ _ h, r⟩
 | .inn _ _ _ _ _ _, _, ⟨L, A, cc, h, r⟩ => ⟨L, A, cc, locOf_mono hι h, r⟩
 | .pr a b, _, ⟨c1, c2, e, h1, h2⟩ => ⟨c1, c2, e, AV.rel.mono hι hN hw (a := a) h1, AV.rel.mono hι hN hw (a := b) h2⟩
 | .t0, _, h => h
 | .t2 a b, _, ⟨v1, v2, e, h1, h2⟩ => ⟨v1, v2, e, h1.mono fun x hx => AV.rel.mono hι hN hw (a := a) hx, h2.mono fun x hx => AV.rel.mono hι hN hw (a := b) hx⟩
 | .t3 a b e3, _, ⟨v1, v2, v3, e, h1, h2, h3⟩ => ⟨v1, v2, v3, e, h1.mono fun x hx => AV.rel.mono hι hN hw (a := a) hx, h2.mono fun x hx => AV.rel.mono hι hN hw (a := b) hx, h3.mono fun x hx => AV.rel.mono hι hN hw (a := e3) hx⟩
 | .fn _ caps, _, ⟨vs, e, h⟩ => ⟨vs, e, AV.rel.mono hι hN hw (a := caps) h⟩
 | .hd _ _, _, ⟨L, h, r⟩ => ⟨L, hι _ _ h, r⟩
theorem AV.val.mono (hι : ∀ b L, ι b = some L → ι' b = some L) (hN : ∀ k, N k → N' k) (hw : ∀ k, N k → w'.heap[k]? = w.heap[k]?) {a : AV} {v : Value} (h : a.val ι N w v) : a.val ι' N' w' v :=
 asVal.mono (fun _ hx => hx.mono hι hN hw) h
theorem AV.rel.len : ∀ {a : AV} {cs : List Value}, a.rel ι N w cs → cs.length = a.size
 | .c v, _, h => CV.rel.len (a := v) h
 | .ptr _ _ _ _, _, ⟨_, _, _, _, e⟩ => by rw [e]; rfl
 | .cp _ _ _, _, ⟨_, _, _, _, _, _, e⟩ => by rw [e]; rfl
 | .own _ _ _, _, ⟨_, _, _, h⟩ => by rcases h with ⟨_, _, _, e⟩ | ⟨_, _, e, _⟩ <;> rw [e] <;> rfl
 | .sub _ _ _ _, _, ⟨_, _, _, h⟩ => by rcases h with ⟨_, _, _, e⟩ | ⟨_, _, _, e, _⟩ <;> rw [e] <;> rfl
 | .inn _ _ _ _ _ _, _, ⟨_, _, _, _, _, _, e, _⟩ => by rw [e]; rfl
 | .pr a b, _, ⟨c1, c2, e, h1, h2⟩ => by rw [e, List.length_append, AV.rel.len (a := a) h1, AV.rel.len (a := b) h2]; rfl
 | .t0, _, h => by rw [h]; rfl
 | .t2 a b, _, ⟨_, _, e, _⟩ => by rw [e]; rfl
 | .t3 a b e3, _, ⟨_, _, _, e, _⟩ => by rw [e]; rfl
 | .fn _ _, _, ⟨_, e, _⟩ => by rw [e]; rfl
 | .hd _ _, _, ⟨_, _, h⟩ => by obtain ⟨v, e, _⟩ := Hk.rel_one h; rw [e]; rfl
theorem AV.rel.one : ∀ {a : AV} {cs : List Value}, a.flat = true → a.rel ι N w cs → ∀ u ∈ cs, u.oneCell' = true
 | .c v, _, _, h => CV.rel.one (a := v) h
 | .ptr _ _ _ _, _, _, ⟨_, _, _, _, e⟩ => by rw [e]; intro u hu; simp at hu; subst hu; rfl
 | .cp _ _ _, _, _, ⟨_, _, _, _, _, _, e⟩ => by rw [e]; intro u hu; simp at hu; subst hu; rfl
 | .own _ _ _, _, _, ⟨_, _, _, h⟩ => by rcases h with ⟨_, _, _, e⟩ | ⟨_, _, e, _⟩ <;> (rw [e]; intro u hu; simp at hu; subst hu; rfl)
 | .sub _ _ _ _, _, _, ⟨_, _, _, h⟩ => by rcases h with ⟨_, _, _, e⟩ | ⟨_, _, _, e, _⟩ <;> (rw [e]; intro u hu; simp at hu; subst hu; rfl)
 | .inn _ _ _ _ _ _, _, _, ⟨_, _, _, _, _, _, e, _⟩ => by rw [e]; intro u hu; simp at hu; subst hu; rfl
 | .pr a b, _, hf, ⟨c1, c2, e, h1, h2⟩ => by
  unfold AV.flat at hf
  simp only [Bool.and_eq_true] at hf
  rw [e]; intro u hu
  rcases List.mem_append.1 hu with hu | hu
  ·exact AV.rel.one (a := a) hf.1 h1 u hu
  ·exact AV.rel.one (a := b) hf.2 h2 u hu
 | .t0, _, hf, _ => by cases hf
 | .t2 _ _, _, hf, _ => by cases hf
 | .t3 _ _ _, _, hf, _ => by cases hf
 | .fn _ _, _, _, ⟨_, e, _⟩ => by rw [e]; intro u hu; simp at hu; subst hu; rfl
 | .hd _ _, _, _, ⟨_, _, h⟩ => by obtain ⟨v, e, h1⟩ := Hk.rel_one h; rw [e]; intro u hu; simp at hu; subst hu; exact h1
end
end Go.Ab
/- -/
namespace Go.Chr
open Go
section
variable {P : Program} {ops : Array Oper} {Q : Exit → Act → World → Prop}
theorem count_set {l : List Bool} {i : Nat} (h : l[i]? = some false) : (l.set i true).count true = l.count true + 1 := by
 induction l generalizing i with
 | nil => simp at h
 | cons b l ih =>
  cases i with
  | zero =>
   simp at h
   subst h
   simp
  | succ i =>
   simp at h
   rw [List.set_cons_succ, List.count_cons, List.count_cons, ih h]
   omega
theorem wpAny_inv {I : Array Bool → Act → World → Prop}
  (hstep : ∀ listed a w i o, I listed a w → ops[i]? = some o → listed.getD i true = false → (∀ e ∈ o.after, Region.binds .any e = true → listed.getD e.on false = true) → wpOp P ops Q i (I (listed.setIfInBounds i true)) a w)
  (hfin : ∀ listed a w, I listed a w → Region.ready .any ops listed = [] → Q .normal a w) :
  ∀ (fuel : Nat) (listed : Array Bool) (a : Act) (w : World), listed.size = ops.size → listed.toList.count true + fuel = ops.size → I listed a w → wpAny P .any ops Q fuel listed a w := by
 intro fuel
 induction fuel with
 | zero =>
  intro listed a w hs hc hI
  have hr : Region.ready .any ops listed = [] := by
   rw [List.eq_nil_iff_forall_not_mem]
   intro i hi
   have h1 := (mem_ready.1 hi).1
   have hall : ∀ b ∈ listed.toList, b = true := by
    have hc2 : listed.toList.count true = listed.toList.length := by rw [Array.length_toList, hs]; omega
    intro b hb
    have := (List.count_eq_length.1 hc2) b hb
    exact this.symm
   rcases Nat.lt_or_ge i listed.size with h | h
   ·rw [Array.getD, dif_pos h] at h1
    have := hall _ (Array.getElem_mem_toList h)
    have h2 : listed[i] = true := this
    have h3 : listed[i] = false := h1
    rw [h2] at h3; cases h3
   ·rw [Array.getD, dif_neg (by omega)] at h1; cases h1
  exact ⟨hr, hfin listed a w hI hr⟩
 | succ fuel ih =>
  intro listed a w hs hc hI
  refine ⟨hfin listed a w hI, fun i hi => ?_⟩
  obtain ⟨h1, o, ho, hdep⟩ := mem_ready.1 hi
  refine wpOp_mono (fun a' w' hI' => ih _ a' w' (by simpa using hs) ?_ hI') (hstep listed a w i o hI ho h1 hdep)
  have hl : listed.toList[i]? = some false := by
   rcases Nat.lt_or_ge i listed.size with h | h
   ·rw [Array.getD, dif_pos h] at h1
    rw [Array.getElem?_toList, Array.getElem?_eq_getElem h]
    exact congrArg some h1
   ·rw [Array.getD, dif_neg (by omega)] at h1; cases h1
  rw [Array.toList_setIfInBounds, count_set hl]
  omega
theorem region_inv {I : Array Bool → Act → World → Prop} {id : Nat} {a : Act} {w : World} (hm : P.follows .mixedOrders = true)
  (hstep : ∀ listed a w i o, I listed a w → ops[i]? = some o → listed.getD i true = false → (∀ e ∈ o.after, Region.binds .any e = true → listed.getD e.on false = true) → wpOp P ops Q i (I (listed.setIfInBounds i true)) a w)
  (hfin : ∀ listed a w, I listed a w → Region.ready .any ops listed = [] → Q .normal a w)
  (h0 : I (Array.replicate ops.size false) a w.drew) : (Code.region id ops true).wp P Q a w :=
 wp_region_any hm (wpAny_inv hstep hfin ops.size _ a w.drew (by simp) (by simp [List.count_replicate]) h0)
end
end Go.Chr
/- Own memory; what an operation does, and what stays. -/
namespace Go.Ab
open Go Go.Chr Go.RowKit
inductive Body : Type 1 where
 | ints (k : IntKind) (l : List Int)
 | rows (t : Tag) (xs : List (El t))
 | els (l : List AV)
inductive Blk' : Type 1 where
 | cells (ty : TypeId) (esz : Nat) (body : Body)
 | map (t : Tag) (m : List (Int × El t))
 | opt (alive : Bool) (ty : TypeId) (esz : Nat) (body : Body)
abbrev Heap := List (Nat × Blk')
def Body.len : Body → Nat
 | .ints _ l => l.length
 | .rows _ xs => xs.length
 | .els l => l.length
def Body.rel (ι : Nat → Option Loc) (N : Nat → Prop) (w : World) (esz : Nat) : Body → List Value → Prop
 | .ints k l, cs => esz = 1 ∧ cs = l.map (.int k) ∧ ∀ x ∈ l, okI k x
 | .rows t xs, cs => relList esz (fun a => t.rel N w a) xs cs
 | .els l, cs => relList esz (fun a => a.rel ι N w) l cs
def Lies (ι : Nat → Option Loc) (N : Nat → Prop) (w : World) (L : Loc) (ty : TypeId) (esz : Nat) (body : Body) (pre xs post : List Value) : Prop :=
 w.heap[L.blk]? = some (.cells (pre ++ (xs ++ post)).toArray ty (0, 0)) ∧ pre.length = L.off ∧ body.rel ι N w esz xs ∧ body.len = L.len
def mapRel (N : Nat → Prop) (w : World) (t : Tag) : List (Int × El t) → List MapEntry → Prop
 | [], es => es = []
 | p :: m, es => ∃ e es', es = e :: es' ∧ e.key = .int .i64 p.1 ∧ asVal (toCV t p.2).isAgg ((toCV t p.2).rel N w) e.val ∧ mapRel N w t m es'
def Born : List MapEntry → Nat → Nat → Prop
 | [], lo, clock => lo ≤ clock
 | e :: es, lo, clock => lo ≤ e.born ∧ Born es (e.born + 1) clock
def BlkRel (ι : Nat → Option Loc) (N : Nat → Prop) (w : World) (L : Loc) : Blk' → Prop
 | .cells ty esz body => (L.ph = true ∧ body.rel ι N w esz [] ∧ body.len = 0 ∧ L.len = 0) ∨ (L.ph = false ∧ ∃ pre xs post, Lies ι N w L ty esz body pre xs post ∧ pre.length + (xs.length + post.length) = L.tot)
 | .map t m => L.ph = false ∧ ∃ es clock, w.heap[L.blk]? = some (.map es clock) ∧ mapRel N w t m es.toList ∧ Born es.toList 0 clock
 | .opt alive ty esz body => (alive = false ∧ L.ph = true) ∨ (alive = true ∧ L.ph = false ∧ ∃ pre xs post, Lies ι N w L ty esz body pre xs post ∧ pre.length + (xs.length + post.length) = L.tot)
section
variable {ι ι' : Nat → Option Loc} {N N' : Nat → Prop} {w w' : World}
theorem Body.rel.mono (hι : ∀ b L, ι b = some L → ι' b = some L) (hN : ∀ k, N k → N' k) (hw : ∀ k, N k → w'.heap[k]? = w.heap[k]?) {esz : Nat} :
  ∀ {b : Body} {cs : List Value}, b.rel ι N w esz cs → b.rel ι' N' w' esz cs
 | .ints _ _, _, h => h
 | .rows _ _, _, h => relList_mono (fun _ _ h => Tag.rel_mono hN hw h) h
 | .els _, _, h => relList_mono (fun _ _ h => h.mono hι hN hw) h
theorem Body.rel.len {esz : Nat} : ∀ {b : Body} {cs : List Value}, b.rel ι N w esz cs → cs.length = b.len * esz
 | .ints _ _, _, ⟨e, h, _⟩ => by rw [h, e, List.length_map, Nat.mul_one]; rfl
 | .rows _ _, _, h => relList_len h
 | .els _, _, h => relList_len h
theorem Lies.mono (hι : ∀ b L, ι b = some L → ι' b = some L) (hN : ∀ k, N k → N' k) (hw : ∀ k, N k → w'.heap[k]? = w.heap[k]?) {L : Loc} (hb : w'.heap[L.blk]? = w.heap[L.blk]?)
  {ty : TypeId} {esz : Nat} {body : Body} {pre xs post : List Value} (h : Lies ι N w L ty esz body pre xs post) : Lies ι' N' w' L ty esz body pre xs post :=
 ⟨hb.trans h.1, h.2.1, h.2.2.1.mono hι hN hw, h.2.2.2⟩
theorem mapRel.mono (hN : ∀ k, N k → N' k) (hw : ∀ k, N k → w'.heap[k]? = w.heap[k]?) {t : Tag} : ∀ {m : List (Int × El t)} {es : List MapEntry}, mapRel N w t m es → mapRel N' w' t m es
 | [], _, h => h
 | _ :: _, _, ⟨e, es', h1, h2, h3, h4⟩ => ⟨e, es', h1, h2, h3.mono fun _ hx => hx.mono hN hw, h4.mono hN hw⟩
theorem BlkRel.mono (hι : ∀ b L, ι b = some L → ι' b = some L) (hN : ∀ k, N k → N' k) (hw : ∀ k, N k → w'.heap[k]? = w.heap[k]?) {L : Loc} (hb : L.ph = false → w'.heap[L.blk]? = w.heap[L.blk]?) :
  ∀ {blk : Blk'}, BlkRel ι N w L blk → BlkRel ι' N' w' L blk
 | .cells _ _ _, .inl ⟨h1, h2, h3⟩ => .inl ⟨h1, h2.mono hι hN hw, h3⟩
 | .cells _ _ _, .inr ⟨hp, pre, xs, post, h, ht⟩ => .inr ⟨hp, pre, xs, post, h.mono hι hN hw (hb hp), ht⟩
 | .map _ _, ⟨hp, es, clock, h, hm, hc⟩ => ⟨hp, es, clock, (hb hp).trans h, hm.mono hN hw, hc⟩
 | .opt _ _ _ _, .inl h => .inl h
 | .opt _ _ _ _, .inr ⟨ha, hp, pre, xs, post, h, ht⟩ => .inr ⟨ha, hp, pre, xs, post, h.mono hι hN hw (hb hp), ht⟩
theorem BlkRel.lt {L : Loc} (hp : L.ph = false) : ∀ {blk : Blk'}, BlkRel ι N w L blk → L.blk < w.heap.size
 | .cells _ _ _, .inl ⟨h, _⟩ => by rw [hp] at h; cases h
 | .cells _ _ _, .inr ⟨_, _, _, _, h, _⟩ => (Array.getElem?_eq_some_iff.1 h.1).1
 | .map _ _, ⟨_, _, _, h, _⟩ => (Array.getElem?_eq_some_iff.1 h).1
 | .opt _ _ _ _, .inl ⟨_, h⟩ => by rw [hp] at h; cases h
 | .opt _ _ _ _, .inr ⟨_, _, _, _, _, h, _⟩ => (Array.getElem?_eq_some_iff.1 h.1).1
end
structure Upd (S : Nat → Prop) (w w' : World) : Prop where
 os : w'.os = w.os
 tape : w'.tape = w.tape
 output : w'.output = w.output
 size : w.heap.size ≤ w'.heap.size
 heap : ∀ k, k < w.heap.size → ¬ S k → w'.heap[k]? = w.heap[k]?
theorem Upd.refl (S : Nat → Prop) (w : World) : Upd S w w := ⟨rfl, rfl, rfl, Nat.le_refl _, fun _ _ _ => rfl⟩
theorem Upd.below {w w' : World} (h : Below w.heap.size w w') (S : Nat → Prop) : Upd S w w' := ⟨h.os, h.tape, h.output, h.size, fun k hk _ => h.block k hk⟩
theorem Upd.to_below {S : Nat → Prop} {w w' : World} (h : Upd S w w') (hS : ∀ k, ¬ S k) : Below w.heap.size w w' := ⟨h.os, h.tape, h.output, h.size, fun k hk => h.heap k hk (hS k)⟩
theorem Upd.trans {S T : Nat → Prop} {u v w : World} (h : Upd S u v) (h' : Upd T v w) (hT : ∀ k, k < u.heap.size → T k → S k) : Upd S u w :=
 ⟨h'.os.trans h.os, h'.tape.trans h.tape, h'.output.trans h.output, Nat.le_trans h.size h'.size, fun k hk hn =>
  (h'.heap k (Nat.lt_of_lt_of_le hk h.size) (fun ht => hn (hT k hk ht))).trans (h.heap k hk hn)⟩
theorem Upd.drew (S : Nat → Prop) (w : World) : Upd S w w.drew := ⟨rfl, rfl, rfl, Nat.le_refl _, fun _ _ _ => rfl⟩
structure OpR : Type 1 where
 val : AV
 upd : List (Nat × Option Blk') := []
 news : List Blk' := []
 rds : List (Nat × Blk') := []
def Contract : Type 1 := List AV → Heap → Nat → (OpR → Prop) → Prop
structure Ctx : Type 1 where
 P : Program
 glob : List (Nat × Blk')
def Env (C : Ctx) (N : Nat → Prop) (w : World) : Prop :=
 (∀ k, N k → k < w.heap.size) ∧ ∀ g blk, C.glob.lookup g = some blk → N g ∧ ∃ ty esz body xs post, blk = .cells ty esz body ∧ Lies (fun _ => none) N w ⟨g, 0, 0, 1, false⟩ ty esz body [] xs post
structure Post (ι : Nat → Option Loc) (N : Nat → Prop) (w : World) (ι' : Nat → Option Loc) (N' : Nat → Prop) (w' : World) (nx : Nat) (r : OpR) : Prop where
 iold : ∀ b L, ι b = some L → ι' b = some L
 inew : ∀ b L, ι' b = some L → ι b = some L ∨ (nx ≤ b ∧ b < nx + r.news.length)
 nold : ∀ k, N k → N' k
 nnew : ∀ k, N' k → N k ∨ w.heap.size ≤ k
 nsz : ∀ k, N' k → k < w'.heap.size
 frame : Upd (fun k => ∃ p ∈ r.upd, ∃ L, ι p.1 = some L ∧ L.ph = false ∧ k = L.blk) w w'
 upds : ∀ b blk, (b, some blk) ∈ r.upd → ∃ L, ι b = some L ∧ BlkRel ι' N' w' L blk
 news : ∀ j blk, r.news[j]? = some blk → ∃ L, ι' (nx + j) = some L ∧ BlkRel ι' N' w' L blk ∧ (L.ph = false → ¬ N' L.blk ∧ (w.heap.size ≤ L.blk ∨ ∃ b L0, (b, none) ∈ r.upd ∧ ι b = some L0 ∧ L0.ph = false ∧ L.blk = L0.blk))
 dist : ∀ i j Li Lj, i < r.news.length → j < r.news.length → i ≠ j → ι' (nx + i) = some Li → ι' (nx + j) = some Lj → Li.ph = false → Lj.ph = false → Li.blk ≠ Lj.blk
structure Pre (C : Ctx) (ι : Nat → Option Loc) (N : Nat → Prop) (w : World) (nx : Nat) (r : OpR) : Prop where
 env : Env C N w
 rds : ∀ p ∈ r.rds, ∃ L, ι p.1 = some L ∧ BlkRel ι N w L p.2 ∧ (L.ph = false → ¬ N L.blk)
 apart : ∀ p ∈ r.rds, ∀ q ∈ r.rds, p.1 ≠ q.1 → ∀ L L', ι p.1 = some L → ι q.1 = some L' → L.ph = false → L'.ph = false → L.blk ≠ L'.blk
 fresh : ∀ j, j < r.news.length → ι (nx + j) = none
structure OpR.Ok (r : OpR) : Prop where
 sub : ∀ p ∈ r.upd, ∃ q ∈ r.rds, q.1 = p.1
 nodup : (r.upd.map (·.1)).Nodup
def Outs (P : Program) (o : Oper) (ρ : Operand → Value) (w : World) (R : Value → World → Prop) : Prop :=
 match (execOp ρ o).run P w with
 | .ok (.value u) w' => R u w'
 | .ok .skip w' => R undef w'
 | .ok (.enter f args) w' => Calls P f args w' fun e w'' => match e with
   | .returned u => R u w''
   | _ => False
 | _ => False
section
variable {P : Program} {o : Oper} {ρ : Operand → Value} {w : World} {R : Value → World → Prop}
theorem Outs.value {v : Value} {w' : World} (h : (execOp ρ o).run P w = .ok (.value v) w') (hR : R v w') : Outs P o ρ w R := by
 unfold Outs; rw [h]; exact hR
theorem Outs.skip {w' : World} (h : (execOp ρ o).run P w = .ok .skip w') (hR : R undef w') : Outs P o ρ w R := by
 unfold Outs; rw [h]; exact hR
theorem Outs.enter {f : FuncId} {args : Array Value} {w' : World} (h : (execOp ρ o).run P w = .ok (.enter f args) w')
  (hc : Calls P f args w' fun e w'' => match e with | .returned u => R u w'' | _ => False) : Outs P o ρ w R := by
 unfold Outs; rw [h]; exact hc
theorem Outs.mono {R' : Value → World → Prop} (h : Outs P o ρ w R) (hR : ∀ u w', R u w' → R' u w') : Outs P o ρ w R' := by
 unfold Outs at *
 generalize (execOp ρ o).run P w = r at *
 cases r with
 | ok n w' =>
  cases n with
  | value u => exact hR _ _ h
  | skip => exact hR _ _ h
  | enter f args => exact Calls.mono h fun e w'' he => by cases e <;> first | exact hR _ _ he | exact he
  | _ => exact h.elim
 | halt x w' => exact h.elim
theorem Outs.wp {a : Act} {K : Act → World → Prop} {Q : Exit → Act → World → Prop} (h : Outs P o a.eval w R) (hK : ∀ u w', R u w' → K (a.put o.dst u) w') : o.wp P a w K Q := by
 unfold Outs at h
 unfold Oper.wp
 generalize (execOp a.eval o).run P w = r at *
 cases r with
 | ok n w' =>
  cases n with
  | value u => exact hK _ _ h
  | skip => exact hK _ _ h
  | enter f args =>
   refine Calls.mono h ?_
   intro e w'' he
   cases e with
   | returned u => exact hK _ _ he
   | panicked c => exact he.elim
   | outgrown => exact he.elim
  | _ => exact h.elim
 | halt x w' => exact h.elim
end
def OpSound (C : Ctx) (nx : Nat) (o : Oper) (ρ : Operand → Option AV) (r : OpR) : Prop :=
 ∀ (ι : Nat → Option Loc) (N : Nat → Prop) (w : World) (a : Act), Pre C ι N w nx r → (∀ x v, x ∈ o.op.operands → ρ x = some v → v.val ι N w (a.eval x)) →
  Outs C.P o a.eval w fun v w' => ∃ ι' N', Post ι N w ι' N' w' nx r ∧ r.val.val ι' N' w' v
structure Snap where
 w : World
 S : Nat → Prop
 ι : Nat → Option Loc
 N : Nat → Prop
 ds : List Deferred
structure RelF (C : Ctx) (X : Snap) (ι : Nat → Option Loc) (N : Nat → Prop) (sl : Nat → Option AV) (hp : Nat → Option Blk') (fr : Nat → Prop) (nt : Nat) (a : Act) (w : World) : Prop where
 slots : ∀ t v, sl t = some v → v.val ι N w (a.tmps.getD t undef)
 blks : ∀ b blk, hp b = some blk → ∃ L, ι b = some L ∧ BlkRel ι N w L blk ∧ (L.ph = false → ¬ N L.blk ∧ (X.S L.blk ∨ X.w.heap.size ≤ L.blk))
 inj : ∀ b b' blk blk' L L', hp b = some blk → hp b' = some blk' → b ≠ b' → ι b = some L → ι b' = some L' → L.ph = false → L'.ph = false → L.blk ≠ L'.blk
 env : Env C N w
 fresh : ∀ b L, ι b = some L → fr b
 n0 : ∀ k, X.N k → N k
 nN : ∀ k, N k → X.N k ∨ X.w.heap.size ≤ k
 i0 : ∀ b L, X.ι b = some L → ι b = some L
 upd : Upd X.S X.w w
 size : a.tmps.size = nt
 ds : a.defers = X.ds
def putF {α : Type 1} (sl : Nat → Option α) (dst : Option Nat) (v : Option α) : Nat → Option α := fun t => if dst = some t then v else sl t
def updF (hp : Nat → Option Blk') (nx : Nat) (r : OpR) : Nat → Option Blk' := fun b =>
 match (if nx ≤ b then r.news[b - nx]? else none) with
 | some blk => some blk
 | none => match r.upd.lookup b with
  | some x => x
  | none => hp b
theorem mem_of_lookup' {α : Type 1} : ∀ {l : List (Nat × α)} {b : Nat} {x : α}, l.lookup b = some x → (b, x) ∈ l
 | (c, y) :: l, b, x, h => by
  rw [List.lookup_cons] at h
  split at h
  ·rename_i hb
   injection h with h
   have : b = c := by simpa using hb
   subst this; subst h; simp
  ·exact List.mem_cons_of_mem _ (mem_of_lookup' h)
theorem lookup_of_mem' {α : Type 1} : ∀ {l : List (Nat × α)} {b : Nat} {x : α}, (l.map (·.1)).Nodup → (b, x) ∈ l → l.lookup b = some x
 | (c, y) :: l, b, x, hn, h => by
  rw [List.map_cons, List.nodup_cons] at hn
  rw [List.lookup_cons]
  rcases List.mem_cons.1 h with h | hm
  ·injection h with h1 h2
   subst h1; subst h2
   simp
  ·have hne : b ≠ c := fun e => hn.1 (List.mem_map.2 ⟨_, hm, e⟩)
   rw [show (b == c) = false by simpa using hne]
   exact lookup_of_mem' hn.2 hm
theorem lookup_none' {α : Type 1} : ∀ {l : List (Nat × α)} {b : Nat}, l.lookup b = none → ∀ p ∈ l, p.1 ≠ b
 | (c, y) :: l, b, h, p, hp => by
  rw [List.lookup_cons] at h
  split at h
  ·cases h
  ·rename_i hb
   rcases List.mem_cons.1 hp with hp | hp
   ·subst hp; simp at hb; exact fun e => hb e.symm
   ·exact lookup_none' h p hp
theorem getD_put_self {a : Act} {d : Nat} {v : Value} (h : d < a.tmps.size) : (a.put (some d) v).tmps.getD d undef = v := by
 simp [Act.put, Array.getD_eq_getD_getElem?, h]
theorem getD_put_ne {a : Act} {dst : Option Nat} {t : Nat} {v : Value} (h : dst ≠ some t) : (a.put dst v).tmps.getD t undef = a.tmps.getD t undef := by
 cases dst with
 | none => rfl
 | some d =>
  have : d ≠ t := fun e => h (by rw [e])
  simp [Act.put, Array.getD_eq_getD_getElem?, Array.getElem?_setIfInBounds, this]
theorem size_put (a : Act) (dst : Option Nat) (v : Value) : (a.put dst v).tmps.size = a.tmps.size := by cases dst <;> simp [Act.put]
theorem defers_put (a : Act) (dst : Option Nat) (v : Value) : (a.put dst v).defers = a.defers := by cases dst <;> simp [Act.put]
section
variable {C : Ctx} {X : Snap} {ι : Nat → Option Loc} {N : Nat → Prop} {sl : Nat → Option AV} {hp : Nat → Option Blk'} {fr : Nat → Prop} {nt : Nat} {a : Act} {w : World}
theorem getD_put_undef {a : Act} {d : Nat} : (a.put (some d) undef).tmps.getD d undef = undef := by
 by_cases h : d < a.tmps.size
 ·exact getD_put_self h
 ·simp [Act.put, Array.getD_eq_getD_getElem?, h]
theorem RelF.drop (H : RelF C X ι N sl hp fr nt a w) (dst : Option Nat) : RelF C X ι N (putF sl dst (some .t0)) hp fr nt (a.put dst undef) w where
 slots := by
  intro t u ht
  unfold putF at ht
  split at ht
  ·rename_i he
   injection ht with ht; subst ht; subst he
   rw [getD_put_undef]; rfl
  ·rename_i hne; rw [getD_put_ne hne]; exact H.slots t u ht
 blks := H.blks
 inj := H.inj
 env := H.env
 fresh := H.fresh
 n0 := H.n0
 nN := H.nN
 i0 := H.i0
 upd := H.upd
 size := (size_put ..).trans H.size
 ds := (defers_put ..).trans H.ds
theorem RelF.drew (H : RelF C X ι N sl hp fr nt a w) : RelF C X ι N sl hp fr nt a w.drew where
 slots := fun t v h => (H.slots t v h).mono (w := w) (w' := w.drew) (fun _ _ h => h) (fun _ h => h) fun _ _ => rfl
 blks := fun b blk h => by
  obtain ⟨L, h1, h2, h3⟩ := H.blks b blk h
  exact ⟨L, h1, h2.mono (w := w) (w' := w.drew) (fun _ _ h => h) (fun _ h => h) (fun _ _ => rfl) (fun _ => rfl), h3⟩
 inj := H.inj
 env := ⟨H.env.1, fun g blk h => by
  obtain ⟨h1, ty, esz, body, xs, post, e, hl⟩ := H.env.2 g blk h
  exact ⟨h1, ty, esz, body, xs, post, e, hl.mono (w := w) (w' := w.drew) (fun _ _ h => h) (fun _ h => h) (fun _ _ => rfl) rfl⟩⟩
 fresh := H.fresh
 n0 := H.n0
 nN := H.nN
 i0 := H.i0
 upd := H.upd.trans (Upd.drew (fun _ => False) w) (fun _ _ h => h.elim)
 size := H.size
 ds := H.ds
theorem Post.keepN {ι' : Nat → Option Loc} {N' : Nat → Prop} {w' : World} {nx : Nat} {r : OpR} (hP : Post ι N w ι' N' w' nx r) (hpre : Pre C ι N w nx r) (hok : r.Ok) :
  ∀ k, N k → w'.heap[k]? = w.heap[k]? := fun k hk => hP.frame.heap k (hpre.env.1 k hk) (by
 rintro ⟨p, hpm, L, hL, hph, rfl⟩
 obtain ⟨q, hq, e⟩ := hok.sub p hpm
 obtain ⟨L', h1, _, h3⟩ := hpre.rds q hq
 rw [e, hL] at h1
 injection h1 with h1
 subst h1
 exact h3 hph hk)
theorem RelF.pre (H : RelF C X ι N sl hp fr nt a w) {r : OpR} {nx : Nat} (hrd : ∀ p ∈ r.rds, hp p.1 = some p.2) (hfr : ∀ j, j < r.news.length → ¬ fr (nx + j)) : Pre C ι N w nx r where
 env := H.env
 rds := fun p hpm => by
  obtain ⟨L, h1, h2, h3⟩ := H.blks _ _ (hrd p hpm)
  exact ⟨L, h1, h2, fun hph => (h3 hph).1⟩
 apart := fun p hpm q hq hne L L' h1 h2 => H.inj _ _ _ _ _ _ (hrd p hpm) (hrd q hq) hne h1 h2
 fresh := fun j hj => by
  cases h : ι (nx + j) with
  | none => rfl
  | some L => exact absurd (H.fresh _ _ h) (hfr j hj)
theorem RelF.post (H : RelF C X ι N sl hp fr nt a w) {r : OpR} {nx : Nat} (hok : r.Ok) (hrd : ∀ p ∈ r.rds, hp p.1 = some p.2) (hfr : ∀ j, j < r.news.length → ¬ fr (nx + j))
  {dst : Option Nat} (hd : ∀ d, dst = some d → d < nt) {ι' : Nat → Option Loc} {N' : Nat → Prop} {w' : World} {v : Value}
  (hP : Post ι N w ι' N' w' nx r) (hv : r.val.val ι' N' w' v) :
  RelF C X ι' N' (putF sl dst (some r.val)) (updF hp nx r) (fun b => fr b ∨ (nx ≤ b ∧ b < nx + r.news.length)) nt (a.put dst v) w' := by
 have hkeep := hP.keepN (H.pre hrd hfr) hok
 have hlive : ∀ p ∈ r.upd, ∃ L, ι p.1 = some L ∧ (∃ blk, hp p.1 = some blk) ∧ (L.ph = false → ¬ N L.blk ∧ L.blk < w.heap.size ∧ (X.S L.blk ∨ X.w.heap.size ≤ L.blk)) := by
  intro p hpm
  obtain ⟨q, hq, e⟩ := hok.sub p hpm
  obtain ⟨L, h1, h2, h3⟩ := H.blks _ _ (hrd q hq)
  rw [e] at h1
  exact ⟨L, h1, ⟨q.2, by rw [← e]; exact hrd q hq⟩, fun hph => ⟨(h3 hph).1, h2.lt hph, (h3 hph).2⟩⟩
 have hother : ∀ b blk L, hp b = some blk → r.upd.lookup b = none → ι b = some L → L.ph = false → w'.heap[L.blk]? = w.heap[L.blk]? := by
  intro b blk L hb hl hL hph
  obtain ⟨L', h1, h2, h3⟩ := H.blks b blk hb
  rw [hL] at h1; injection h1 with h1; subst h1
  refine hP.frame.heap _ (h2.lt hph) ?_
  rintro ⟨p, hpm, L2, hL2, hph2, e⟩
  obtain ⟨L3, h4, ⟨blk3, h5⟩, _⟩ := hlive p hpm
  rw [hL2] at h4; injection h4 with h4; subst h4
  exact H.inj b p.1 blk blk3 L L2 hb h5 (fun e => lookup_none' hl p hpm e.symm) hL hL2 hph hph2 e
 -- the three kinds of blocks
 have hkind : ∀ b blk, updF hp nx r b = some blk → (b, some blk) ∈ r.upd ∨ (nx ≤ b ∧ r.news[b - nx]? = some blk) ∨ (r.upd.lookup b = none ∧ hp b = some blk) := by
  intro b blk h
  unfold updF at h
  split at h
  ·rename_i hn
   split at hn
   ·rename_i hb
    injection h with h; subst h
    exact .inr (.inl ⟨hb, hn⟩)
   ·cases hn
  ·split at h
   ·rename_i x hx
    rw [h] at hx
    exact .inl (mem_of_lookup' hx)
   ·rename_i hx
    exact .inr (.inr ⟨hx, h⟩)
 have hnews : ∀ b blk, nx ≤ b → r.news[b - nx]? = some blk → ∃ L, ι' b = some L ∧ BlkRel ι' N' w' L blk ∧ (L.ph = false → ¬ N' L.blk ∧ (w.heap.size ≤ L.blk ∨ ∃ b L0, (b, none) ∈ r.upd ∧ ι b = some L0 ∧ L0.ph = false ∧ L.blk = L0.blk)) := by
  intro b blk hb hn
  have := hP.news (b - nx) blk hn
  rwa [show nx + (b - nx) = b by omega] at this
 -- an old block's place
 have hold : ∀ b blk, ((b, some blk) ∈ r.upd ∨ (r.upd.lookup b = none ∧ hp b = some blk)) → ∃ L blk0, ι b = some L ∧ hp b = some blk0 ∧ (L.ph = false → ¬ N L.blk ∧ L.blk < w.heap.size ∧ (X.S L.blk ∨ X.w.heap.size ≤ L.blk)) := by
  rintro b blk (h | ⟨_, h⟩)
  ·obtain ⟨L, h1, ⟨blk0, h2⟩, h3⟩ := hlive _ h
   exact ⟨L, blk0, h1, h2, h3⟩
  ·obtain ⟨L, h1, h2, h3⟩ := H.blks b blk h
   exact ⟨L, blk, h1, h, fun hph => ⟨(h3 hph).1, h2.lt hph, (h3 hph).2⟩⟩
 have hnot : ∀ k, ¬ N k → k < w.heap.size → ¬ N' k := by
  intro k h1 h2 h3
  rcases hP.nnew k h3 with h | h
  ·exact h1 h
  ·omega
 refine ⟨?_, ?_, ?_, ?_, ?_, ?_, ?_, ?_, ?_, ?_, ?_⟩
 ·intro t u ht
  unfold putF at ht
  split at ht
  ·rename_i hdt
   injection ht with ht
   subst ht
   rw [hdt, getD_put_self (by rw [H.size]; exact hd _ hdt)]
   exact hv
  ·rename_i hne
   rw [getD_put_ne hne]
   exact (H.slots t u ht).mono hP.iold hP.nold hkeep
 ·intro b blk h
  rcases hkind b blk h with h | ⟨h1, h2⟩ | ⟨h0, h1⟩
  ·obtain ⟨L, e1, e2⟩ := hP.upds b blk h
   obtain ⟨L2, h1, _, h3⟩ := hlive _ h
   rw [e1] at h1; injection h1 with h1; subst h1
   exact ⟨L, hP.iold _ _ e1, e2, fun hph => ⟨hnot _ (h3 hph).1 (h3 hph).2.1, (h3 hph).2.2⟩⟩
  ·obtain ⟨L, e1, e2, e3⟩ := hnews b blk h1 h2
   refine ⟨L, e1, e2, fun hph => ?_⟩
   obtain ⟨e3, e4⟩ := e3 hph
   refine ⟨e3, ?_⟩
   rcases e4 with e4 | ⟨b0, L0, m0, i0, p0, e⟩
   ·exact .inr (Nat.le_trans H.upd.size e4)
   ·obtain ⟨L2, k1, _, k5⟩ := hlive _ m0
    rw [i0] at k1; injection k1 with k1; subst k1
    rw [e]; exact (k5 p0).2.2
  ·obtain ⟨L, e1, e2, e3⟩ := H.blks b blk h1
   exact ⟨L, hP.iold _ _ e1, e2.mono hP.iold hP.nold hkeep (hother b blk L h1 h0 e1), fun hph => ⟨hnot _ (e3 hph).1 (e2.lt hph), (e3 hph).2⟩⟩
 ·intro b b' blk blk' L L' h h' hne hL hL' hph hph'
  -- places of old ones
  have key : ∀ c cblk cL, ((c, some cblk) ∈ r.upd ∨ (r.upd.lookup c = none ∧ hp c = some cblk)) → ι' c = some cL → ι c = some cL := by
   intro c cblk cL hc hcL
   obtain ⟨L1, _, e1, _⟩ := hold c cblk hc
   have := hP.iold _ _ e1
   rw [hcL] at this; injection this with this; subst this
   exact e1
  have on : ∀ c cblk cL d dblk dL, ((c, some cblk) ∈ r.upd ∨ (r.upd.lookup c = none ∧ hp c = some cblk)) → (nx ≤ d ∧ r.news[d - nx]? = some dblk) →
    ι' c = some cL → ι' d = some dL → cL.ph = false → dL.ph = false → cL.blk ≠ dL.blk := by
   intro c cblk cL d dblk dL hc ⟨hd1, hd2⟩ hcL hdL hcp hdp
   have hcι := key c cblk cL hc hcL
   obtain ⟨L1, cb0, e1, e2, e3⟩ := hold c cblk hc
   rw [hcι] at e1; injection e1 with e1; subst e1
   have e4 := (e3 hcp).2.1
   obtain ⟨L2, f1, _, f3⟩ := hnews d dblk hd1 hd2
   rw [hdL] at f1; injection f1 with f1; subst f1
   rcases (f3 hdp).2 with f4 | ⟨b0, L0, m0, i0, p0, e⟩
   ·intro e; omega
   ·intro e'
    obtain ⟨L3, k1, ⟨bk, k2⟩, _⟩ := hlive _ m0
    have hcb : c ≠ b0 := by
     rintro rfl
     rcases hc with hc | ⟨hc, _⟩
     ·have a1 := lookup_of_mem' hok.nodup hc
      have a2 := lookup_of_mem' hok.nodup m0
      rw [a1] at a2; cases a2
     ·exact lookup_none' hc _ m0 rfl
    exact H.inj c b0 cb0 bk cL L0 e2 k2 hcb hcι i0 hcp p0 (e'.trans e)
  rcases hkind b blk h with h1 | h1 | h1 <;> rcases hkind b' blk' h' with h2 | h2 | h2
  ·have k1 := key b blk L (.inl h1) hL
   have k2 := key b' blk' L' (.inl h2) hL'
   obtain ⟨_, x, _, x2, _⟩ := hold b blk (.inl h1)
   obtain ⟨_, y, _, y2, _⟩ := hold b' blk' (.inl h2)
   exact H.inj b b' x y L L' x2 y2 hne k1 k2 hph hph'
  ·exact on b blk L b' blk' L' (.inl h1) h2 hL hL' hph hph'
  ·have k1 := key b blk L (.inl h1) hL
   have k2 := key b' blk' L' (.inr h2) hL'
   obtain ⟨_, x, _, x2, _⟩ := hold b blk (.inl h1)
   exact H.inj b b' x blk' L L' x2 h2.2 hne k1 k2 hph hph'
  ·exact (on b' blk' L' b blk L (.inl h2) h1 hL' hL hph' hph).symm
  ·obtain ⟨a1, a2⟩ := h1
   obtain ⟨b1, b2⟩ := h2
   exact hP.dist (b - nx) (b' - nx) L L' (List.getElem?_eq_some_iff.1 a2).1 (List.getElem?_eq_some_iff.1 b2).1 (by omega)
    (by rw [show nx + (b - nx) = b by omega]; exact hL) (by rw [show nx + (b' - nx) = b' by omega]; exact hL') hph hph'
  ·exact (on b' blk' L' b blk L (.inr h2) h1 hL' hL hph' hph).symm
  ·have k1 := key b blk L (.inr h1) hL
   have k2 := key b' blk' L' (.inl h2) hL'
   obtain ⟨_, y, _, y2, _⟩ := hold b' blk' (.inl h2)
   exact H.inj b b' blk y L L' h1.2 y2 hne k1 k2 hph hph'
  ·exact on b blk L b' blk' L' (.inr h1) h2 hL hL' hph hph'
  ·exact H.inj b b' blk blk' L L' h1.2 h2.2 hne (key b blk L (.inr h1) hL) (key b' blk' L' (.inr h2) hL') hph hph'
 ·exact ⟨hP.nsz, fun g blk h => by
   obtain ⟨h1, ty, esz, body, xs, post, e, hl⟩ := H.env.2 g blk h
   exact ⟨hP.nold _ h1, ty, esz, body, xs, post, e, hl.mono (fun _ _ h => h) hP.nold hkeep (hkeep _ h1)⟩⟩
 ·intro b L h
  rcases hP.inew b L h with h | h
  ·exact .inl (H.fresh b L h)
  ·exact .inr h
 ·exact fun k h => hP.nold k (H.n0 k h)
 ·intro k h
  rcases hP.nnew k h with h | h
  ·exact H.nN k h
  ·exact .inr (Nat.le_trans H.upd.size h)
 ·exact fun b L h => hP.iold b L (H.i0 b L h)
 ·refine H.upd.trans hP.frame ?_
  rintro k hk ⟨p, hpm, L, hL, hph, rfl⟩
  obtain ⟨L2, h1, _, h5⟩ := hlive p hpm
  rw [hL] at h1; injection h1 with h1; subst h1
  rcases (h5 hph).2.2 with h | h
  ·exact h
  ·omega
 ·exact (size_put ..).trans H.size
 ·exact (defers_put ..).trans H.ds
theorem RelF.step (H : RelF C X ι N sl hp fr nt a w) {o : Oper} {ρ : Operand → Option AV} {r : OpR} {nx : Nat} (hs : OpSound C nx o ρ r) (hok : r.Ok)
  (hop : ∀ x v, x ∈ o.op.operands → ρ x = some v → v.val ι N w (a.eval x)) (hrd : ∀ p ∈ r.rds, hp p.1 = some p.2) (hfr : ∀ j, j < r.news.length → ¬ fr (nx + j)) (hd : ∀ d, o.dst = some d → d < nt) :
  Outs C.P o a.eval w fun v w' => ∃ ι' N', RelF C X ι' N' (putF sl o.dst (some r.val)) (updF hp nx r) (fun b => fr b ∨ (nx ≤ b ∧ b < nx + r.news.length)) nt (a.put o.dst v) w' :=
 (hs ι N w a (H.pre hrd hfr) hop).mono fun _ _ ⟨ι', N', hP, hv⟩ => ⟨ι', N', H.post hok hrd hfr hd hP hv⟩
end
end Go.Ab
