/- The words for memory in which the contracts are told. (Sections 1 to 3 of the kit's page of words, laid here as that page asks.) -/
import Derived.Below
import Derived.Laws.OwnMore
import Derived.Deep.AppendLies
import Derived.Deep.Draws
import Derived.Laws.Rows
import Derived.Maps.AppendAt
import Derived.RegionTactic
import Derived.OwnWalk
import Derived.Laws.ResultCell
import Derived.Laws.Bits64
namespace Go.Chr
open Go.RowKit
theorem block_of_add (a : Addr) (n : Nat) : (a.add n).block = a.block := by unfold Addr.add; split <;> rfl
theorem add_of_add (a : Addr) (i j : Nat) : (a.add i).add j = a.add (i + j) := by
  unfold Addr.add
  by_cases hi : i = 0 <;> by_cases hj : j = 0 <;> simp [hi, hj, Nat.add_assoc]

def Reads (w : World) (B size : Nat) (A : Option Addr) (n : Nat) (xs : List Value) : Prop :=
  xs.length = n * size ∧ (0 < n → ∃ ad, A = some ad ∧ ad.block < B ∧ ∀ j u, xs[j]? = some u → w.cell? (ad.add j) = some u)

section
variable {w w' : World} {B B' size n : Nat} {A : Option Addr} {xs : List Value}
theorem Reads.none_ : Reads w B size A 0 [] := ⟨by simp, fun h => absurd h (by omega)⟩
theorem Reads.at_ {k : Nat} (h : Reads w B 1 A n xs) (hk : k < n) : ∃ ad u, A = some ad ∧ ad.block < B ∧ xs[k]? = some u ∧ w.cell? (ad.add k) = some u := by
  obtain ⟨ad, e, hb, hc⟩ := h.2 (by omega)
  have hl : k < xs.length := by have := h.1; omega
  exact ⟨ad, xs[k], e, hb, List.getElem?_eq_getElem hl, hc k _ (List.getElem?_eq_getElem hl)⟩
theorem Reads.keep (h : Reads w B size A n xs) (hk : ∀ p : Addr, p.block < B → w'.cell? p = w.cell? p) : Reads w' B size A n xs :=
  ⟨h.1, fun hn => by
    obtain ⟨ad, e, hb, hc⟩ := h.2 hn
    exact ⟨ad, e, hb, fun j u hu => (hk _ (by rw [block_of_add]; exact hb)).trans (hc j u hu)⟩⟩
theorem Reads.more (h : Reads w B size A n xs) (hB : B ≤ B') : Reads w B' size A n xs :=
  ⟨h.1, fun hn => by
    obtain ⟨ad, e, hb, hc⟩ := h.2 hn
    exact ⟨ad, e, by omega, hc⟩⟩
theorem Reads.below (h : Reads w B size A n xs) (hb : Below B w w') : Reads w' B size A n xs := h.keep fun _ hp => hb.cell hp
theorem Reads.drew (h : Reads w B size A n xs) : Reads w.drew B size A n xs := h
theorem Reads.drewN (h : Reads w B size A n xs) (k : Nat) : Reads (w.drewN k) B size A n xs := h
theorem Reads.alloc (h : Reads w B size A n xs) (hB : B ≤ w.heap.size) (o : Obj) : Reads (w.alloc o) B size A n xs := h.keep fun p hp => World.cell?_alloc_lt w o p (by omega)
theorem Reads.setCell (h : Reads w B size A n xs) {p : Addr} (hB : B ≤ p.block) (u : Value) : Reads (w.setCell p u) B size A n xs :=
  h.keep fun q hq => World.cell?_setCell_other w p q u (fun e => by subst e; omega)
theorem Reads.grown (h : Reads w B size A n xs) {row : Option Nat} (hg : w.grownBy w' row) (hB : B ≤ w.heap.size) (hr : ∀ g, row = some g → B ≤ g) : Reads w' B size A n xs :=
  h.keep fun p hp => World.cell?_of_block (hg.block p.block (by omega) (fun e => by have := hr _ e.symm; omega))
theorem Reads.cut (h : Reads w B size A n xs) {k cap : Nat} (hk : k ≤ n) (hc : n ≤ cap) :
    Reads w B size (if cap = k then A else A.map (·.add (k * size))) (n - k) (xs.drop (k * size)) := by
  refine ⟨by rw [List.length_drop, h.1, Nat.sub_mul], fun hn => ?_⟩
  obtain ⟨ad, rfl, hb, hcell⟩ := h.2 (by omega)
  rw [if_neg (by omega)]
  refine ⟨ad.add (k * size), rfl, by rw [block_of_add]; exact hb, fun j u hu => ?_⟩
  rw [add_of_add]
  exact hcell _ u (by rw [← hu, List.getElem?_drop])
theorem Reads.of_own {base : Nat} {e : TypeId} {c : Nat} (h : w.ownsRow base e size (.slice A n c) n xs) : Reads w w.heap.size size A n xs := by
  refine ⟨h.1, fun hn => ?_⟩
  obtain ⟨g, cap, hv, _, hlt⟩ := h.form hn
  have hA : A = some ⟨g, 0, none⟩ := by injection hv
  subst hA
  exact ⟨_, rfl, hlt, h.cells (g := g) rfl⟩
end

def Blk (w : World) (g : Nat) (t : TypeId) (cs : Array Value) : Prop := w.heap[g]? = some (.cells cs t (0, 0))

section
variable {w w' : World} {g : Nat} {t : TypeId} {cs : Array Value}
theorem Blk.lt (h : Blk w g t cs) : g < w.heap.size := by
  rcases Nat.lt_or_ge g w.heap.size with hlt | hge
  · exact hlt
  · unfold Blk at h; rw [Array.getElem?_eq_none hge] at h; cases h
theorem Blk.cell (h : Blk w g t cs) (i : Nat) : w.cell? ⟨g, i, none⟩ = cs[i]? := cell_of_row w g i cs t (0, 0) h
theorem Blk.frozen (h : Blk w g t cs) (i : Nat) : w.frozen? ⟨g, i, none⟩ = false := by
  unfold Blk at h
  simp [World.frozen?, h]
theorem Blk.new (w : World) (t : TypeId) (cs : Array Value) : Blk (w.alloc (.cells cs t)) w.heap.size t cs := heap_alloc_new w _
theorem Blk.drew (h : Blk w g t cs) : Blk w.drew g t cs := h
theorem Blk.drewN (h : Blk w g t cs) (n : Nat) : Blk (w.drewN n) g t cs := h
theorem Blk.alloc (h : Blk w g t cs) (o : Obj) : Blk (w.alloc o) g t cs := (Below.heap_alloc w o g h.lt).trans h
theorem Blk.set_ (h : Blk w g t cs) (i : Nat) (u : Value) : Blk (w.setCell ⟨g, i, none⟩ u) g t (cs.setIfInBounds i u) := by
  unfold Blk at h ⊢
  simp [World.setCell, Array.getElem?_modify, h]
theorem Blk.far (h : Blk w g t cs) {p : Addr} (hp : g ≠ p.block) (u : Value) : Blk (w.setCell p u) g t cs := (Below.heap_setCell w p u g hp).trans h
theorem Blk.below {B : Nat} (h : Blk w g t cs) (hb : Below B w w') (hg : g < B) : Blk w' g t cs := (hb.block g hg).trans h
theorem Blk.grown {row : Option Nat} (h : Blk w g t cs) (hb : w.grownBy w' row) (hg : some g ≠ row) : Blk w' g t cs := (hb.block g h.lt hg).trans h
theorem Blk.ne_ {g' : Nat} {t' : TypeId} {cs' : Array Value} (h : Blk w g t cs) (h' : Blk w g' t' cs') (hne : t ≠ t') : g ≠ g' := by
  rintro rfl
  unfold Blk at h h'
  rw [h] at h'
  injection h' with h'
  injection h' with _ ht
  exact hne ht
theorem own_blk_ne {base : Nat} {e : TypeId} {size n : Nat} {v : Value} {xs : List Value} (h : w.ownsRow base e size v n xs) (hg : Blk w g t cs) (hne : e ≠ t) : v.ownBlock ≠ some g := by
  rcases h.2 with ⟨rfl, _⟩ | ⟨g', cap, cur, rfl, _, hh, _⟩
  · simp [Value.ownBlock]
  · intro he
    have : g' = g := by simpa [Value.ownBlock] using he
    subst this
    exact Blk.ne_ (t := e) hh hg hne rfl
end

section
variable {P : Program} (w : World)

theorem run_append_of_nil (base : Nat) (t ty e : TypeId) (i : TypeInfo) (size : Nat) (ht : P.underlying t = some (.slice e)) (hi : P.info? e = some i)
    (v : Value) (n : Nat) (xs : List Value) (hown : w.ownsRow base e size v n xs) (c : Nat) : (Builtin.append_ #[t, t] ty #[v, .slice none 0 c]).run P w = .ok v w := by
  rcases hown.2 with ⟨rfl, rfl⟩ | ⟨g, cap, cur, rfl, _, _, hnc, _⟩
  · simp [Builtin.append_, run_underlying ht, sizeOf, typeInfo, hi, Builtin.lenOf, Builtin.firstCells]
  · simp [Builtin.append_, run_underlying ht, sizeOf, typeInfo, hi, Builtin.lenOf, Builtin.firstCells, hnc, storeCells]

theorem run_append_any (base : Nat) (t ty e : TypeId) (i : TypeInfo) (z : Value) (size bytes : Nat) (ht : P.underlying t = some (.slice e)) (hi : P.info? e = some i) (hz : i.zero = some z)
    (hsize : i.size = size) (hby : i.bytes = bytes) (hzs : z.cells.size = size) (hsz : 0 < size)
    (v : Value) (n : Nat) (xs : List Value) (hown : w.ownsRow base e size v n xs)
    (B : Nat) (A : Option Addr) (m c : Nat) (news : List Value) (hr : Reads w B size A m news) (h1 : ∀ u ∈ news, u.oneCell' = true)
    (h63 : n + m ≤ maxLen) (hbytes : (n + m) * bytes ≤ 140737488355328) (hbase : base ≤ w.heap.size) :
    ∃ v' w', (Builtin.append_ #[t, t] ty #[v, .slice A m c]).run P w = .ok v' w' ∧ w'.ownsRow base e size v' (n + m) (xs ++ news) ∧ w.grownBy w' v.ownBlock ∧
      (v'.ownBlock = v.ownBlock ∨ v'.ownBlock = some w.heap.size) := by
  rcases A with _ | ad
  · have hm : m = 0 := by
      rcases Nat.eq_zero_or_pos m with h0 | h0
      · exact h0
      · obtain ⟨ad, h, _⟩ := hr.2 h0
        cases h
    subst hm
    have hn : news = [] := List.eq_nil_of_length_eq_zero (by simpa using hr.1)
    subst hn
    exact ⟨v, w, run_append_of_nil w base t ty e i size ht hi v n xs hown c, by simpa using hown, World.grownBy.refl w _, .inl rfl⟩
  · have hcells : ∀ j u, news[j]? = some u → w.cell? (ad.add j) = some u := by
      intro j u hu
      rcases Nat.eq_zero_or_pos m with h0 | h0
      · subst h0
        have hn : news = [] := List.eq_nil_of_length_eq_zero (by simpa using hr.1)
        subst hn
        simp at hu
      · obtain ⟨ad', h, _, hc⟩ := hr.2 h0
        injection h with h
        subst h
        exact hc j u hu
    obtain ⟨v', w', hrun, h2, h3, _, h5⟩ := run_append_own_at (P := P) w base t ty e i z size bytes ht hi hz hsize hby hzs hsz v n xs hown ad m c news hr.1 hcells h1 h63 hbytes hbase
    exact ⟨v', w', hrun, h2, h3, h5⟩

theorem wp_append_any {o : Oper} {a : Act} {K : Act → World → Prop} {Q : Exit → Act → World → Prop} (s x : Operand) (t : TypeId)
    (ho : o.op = .call { callee := .builtin .append, args := #[s, x], argTypes := #[t, t] })
    (base : Nat) (e : TypeId) (i : TypeInfo) (z : Value) (size bytes : Nat) (ht : P.underlying t = some (.slice e)) (hi : P.info? e = some i) (hz : i.zero = some z)
    (hsize : i.size = size) (hby : i.bytes = bytes) (hzs : z.cells.size = size) (hsz : 0 < size)
    (v : Value) (n : Nat) (xs : List Value) (hs : a.eval s = v) (hown : w.ownsRow base e size v n xs)
    (B : Nat) (A : Option Addr) (m c : Nat) (news : List Value) (hx : a.eval x = .slice A m c) (hr : Reads w B size A m news) (h1 : ∀ u ∈ news, u.oneCell' = true)
    (h63 : n + m ≤ maxLen) (hbytes : (n + m) * bytes ≤ 140737488355328) (hbase : base ≤ w.heap.size)
    (h : ∀ v' w', w'.ownsRow base e size v' (n + m) (xs ++ news) → w.grownBy w' v.ownBlock → (v'.ownBlock = v.ownBlock ∨ v'.ownBlock = some w.heap.size) → K (a.put o.dst v') w') : o.wp P a w K Q := by
  obtain ⟨v', w', hrun, h2, h3, h4⟩ := run_append_any (P := P) w base t o.type e i z size bytes ht hi hz hsize hby hzs hsz v n xs hown B A m c news hr h1 h63 hbytes hbase
  unfold Oper.wp execOp
  simp only [ho, resolve, invoke, builtin, Sem.run_bind, Sem.run_pure, Result.andThen_ok, List.map_toArray, List.map_cons, List.map_nil, hs, hx, hrun]
  exact h v' w' h2 h3 h4

theorem wpList_append_any {ops : Array Oper} {rest : List Oper} {o : Oper} {a : Act} {Q : Exit → Act → World → Prop} (hgd : o.guard = none) (s x : Operand) (t : TypeId)
    (ho : o.op = .call { callee := .builtin .append, args := #[s, x], argTypes := #[t, t] })
    (base : Nat) (e : TypeId) (i : TypeInfo) (z : Value) (size bytes : Nat) (ht : P.underlying t = some (.slice e)) (hi : P.info? e = some i) (hz : i.zero = some z)
    (hsize : i.size = size) (hby : i.bytes = bytes) (hzs : z.cells.size = size) (hsz : 0 < size)
    (v : Value) (n : Nat) (xs : List Value) (hs : a.eval s = v) (hown : w.ownsRow base e size v n xs)
    (B : Nat) (A : Option Addr) (m c : Nat) (news : List Value) (hx : a.eval x = .slice A m c) (hr : Reads w B size A m news) (h1 : ∀ u ∈ news, u.oneCell' = true)
    (h63 : n + m ≤ maxLen) (hbytes : (n + m) * bytes ≤ 140737488355328) (hbase : base ≤ w.heap.size)
    (h : ∀ v' w', w'.ownsRow base e size v' (n + m) (xs ++ news) → w.grownBy w' v.ownBlock → (v'.ownBlock = v.ownBlock ∨ v'.ownBlock = some w.heap.size) → wpList P ops Q rest (a.put o.dst v') w') : wpList P ops Q (o :: rest) a w :=
  wpList_plain hgd fun _ hK => wp_append_any w s x t ho base e i z size bytes ht hi hz hsize hby hzs hsz v n xs hs hown B A m c news hx hr h1 h63 hbytes hbase fun v' w' h2 h3 h4 => hK _ _ (h v' w' h2 h3 h4)

theorem step_append_any {ops : Array Oper} {o : Oper} {a : Act} {K : Act → World → Prop} {Q : Exit → Act → World → Prop} {E : Prop} (hgd : o.guard = none) (s x : Operand) (t : TypeId)
    (ho : o.op = .call { callee := .builtin .append, args := #[s, x], argTypes := #[t, t] })
    (base : Nat) (e : TypeId) (i : TypeInfo) (z : Value) (size bytes : Nat) (ht : P.underlying t = some (.slice e)) (hi : P.info? e = some i) (hz : i.zero = some z)
    (hsize : i.size = size) (hby : i.bytes = bytes) (hzs : z.cells.size = size) (hsz : 0 < size)
    (v : Value) (n : Nat) (xs : List Value) (hs : a.eval s = v) (hown : w.ownsRow base e size v n xs)
    (B : Nat) (A : Option Addr) (m c : Nat) (news : List Value) (hx : a.eval x = .slice A m c) (hr : Reads w B size A m news) (h1 : ∀ u ∈ news, u.oneCell' = true)
    (h63 : n + m ≤ maxLen) (hbytes : (n + m) * bytes ≤ 140737488355328) (hbase : base ≤ w.heap.size)
    (h : ∀ v' w', w'.ownsRow base e size v' (n + m) (xs ++ news) → w.grownBy w' v.ownBlock → (v'.ownBlock = v.ownBlock ∨ v'.ownBlock = some w.heap.size) → K (a.put o.dst v') w') :
    if Region.wanted o (yielded ops a.tmps) = true then Oper.wp P o a w K Q else E := by
  have hw : Region.wanted o (yielded ops a.tmps) = true := by simp [Region.wanted, hgd]
  rw [if_pos hw]
  exact wp_append_any w s x t ho base e i z size bytes ht hi hz hsize hby hzs hsz v n xs hs hown B A m c news hx hr h1 h63 hbytes hbase h
end

/-- block g is just these numbers of kind k -/
def IB (w : World) (g : Nat) (t : TypeId) (k : IntKind) (l : List Int) : Prop := Blk w g t (l.map (Value.int k)).toArray

section
variable {w w' : World} {g : Nat} {t : TypeId} {k : IntKind} {l : List Int}
theorem IB.lt (h : IB w g t k l) : g < w.heap.size := Blk.lt h
theorem IB.cell (h : IB w g t k l) {i : Nat} (hi : i < l.length) : w.cell? ⟨g, i, none⟩ = some (.int k (l.getD i 0)) := by
  rw [Blk.cell h]; simp [List.getD, hi]
theorem IB.congr {l' : List Int} (h : IB w g t k l) (e : l = l') : IB w g t k l' := e ▸ h
theorem IB.frozen (h : IB w g t k l) (i : Nat) : w.frozen? ⟨g, i, none⟩ = false := Blk.frozen h i
theorem IB.alloc (h : IB w g t k l) (o : Obj) : IB (w.alloc o) g t k l := Blk.alloc h o
theorem IB.drew (h : IB w g t k l) : IB w.drew g t k l := h
theorem IB.drewN (h : IB w g t k l) (n : Nat) : IB (w.drewN n) g t k l := h
theorem IB.set (h : IB w g t k l) (i : Nat) (x : Int) : IB (w.setCell ⟨g, i, none⟩ (.int k x)) g t k (l.set i x) := by
  have := Blk.set_ h i (.int k x)
  unfold IB
  have e : ((l.map (Value.int k)).toArray).setIfInBounds i (.int k x) = ((l.set i x).map (Value.int k)).toArray := by
    rw [List.map_set]; simp
  rw [← e]; exact this
theorem IB.far (h : IB w g t k l) {p : Addr} (hp : g ≠ p.block) (u : Value) : IB (w.setCell p u) g t k l := Blk.far h hp u
theorem IB.below {B : Nat} (h : IB w g t k l) (hb : Below B w w') (hg : g < B) : IB w' g t k l := Blk.below h hb hg
theorem IB.new (w : World) (t : TypeId) (k : IntKind) (l : List Int) : IB (w.alloc (.cells (l.map (Value.int k)).toArray t)) w.heap.size t k l := Blk.new w t _
theorem IB.zeros (w : World) (t : TypeId) (k : IntKind) (n : Nat) : IB (w.alloc (.cells (Array.replicate n (.int k 0)) t)) w.heap.size t k (List.replicate n 0) := by
  have e : Array.replicate n (Value.int k 0) = ((List.replicate n (0 : Int)).map (Value.int k)).toArray := by simp
  rw [e]; exact IB.new w t k _
end

section
variable {w w' : World} {row : Option Nat}
theorem gb_set (h : w.grownBy w' row) {p : Addr} (hp : row = some p.block) (u : Value) : w.grownBy (w'.setCell p u) row :=
  ⟨h.os, h.tape, h.output, by simpa [World.setCell] using h.size, fun k hk hne => (Below.heap_setCell _ _ _ _ (by rintro rfl; exact hne hp.symm)).trans (h.block k hk hne)⟩
theorem gb_new (h : w.grownBy w' row) {p : Addr} (hp : w.heap.size ≤ p.block) (u : Value) : w.grownBy (w'.setCell p u) row :=
  ⟨h.os, h.tape, h.output, by simpa [World.setCell] using h.size, fun k hk hne => (Below.heap_setCell _ _ _ _ (by omega)).trans (h.block k hk hne)⟩
theorem gb_drew (h : w.grownBy w' row) : w.grownBy w'.drew row := ⟨h.os, h.tape, h.output, h.size, h.block⟩
theorem gb_drewN (h : w.grownBy w' row) (n : Nat) : w.grownBy (w'.drewN n) row := ⟨h.os, h.tape, h.output, h.size, h.block⟩
theorem gb_alloc (h : w.grownBy w' row) (o : Obj) : w.grownBy (w'.alloc o) row :=
  ⟨h.os, h.tape, h.output, by have := h.size; simp; omega, fun k hk hne => (Below.heap_alloc _ _ _ (by have := h.size; omega)).trans (h.block k hk hne)⟩
theorem gb_below (h : w.grownBy w' row) {x : World} (hb : Below w'.heap.size w' x) : w.grownBy x row :=
  ⟨hb.os.trans h.os, hb.tape.trans h.tape, hb.output.trans h.output, Nat.le_trans h.size hb.size, fun k hk hne => (hb.block k (by have := h.size; omega)).trans (h.block k hk hne)⟩
theorem gb_to_below (h : w.grownBy w' row) {B : Nat} (hB : B ≤ w.heap.size) (hr : ∀ k, row = some k → B ≤ k) : Below B w w' := (Below.refl B w).grown h hB hr
theorem below_gb (h : Below w.heap.size w w') (row : Option Nat) : w.grownBy w' row := ⟨h.os, h.tape, h.output, h.size, fun k hk _ => h.block k hk⟩
end

theorem u64_in {x : Int} (h0 : 0 ≤ x) (h1 : x < 2 ^ 64) : IntKind.u64.wrap x = x := by
  rw [IntKind.wrap_u64]; exact Int.emod_eq_of_lt h0 (by simpa using h1)

theorem bcell {W w1 : World} (hb : Below W.heap.size W w1) : (∀ b o, b < W.heap.size → w1.cell? ⟨b, o, none⟩ = W.cell? ⟨b, o, none⟩) ∧ (∀ b o, b < W.heap.size → w1.frozen? ⟨b, o, none⟩ = W.frozen? ⟨b, o, none⟩) :=
  ⟨fun b o h => hb.cell (p := ⟨b, o, none⟩) h, fun b o h => hb.frozen (p := ⟨b, o, none⟩) h⟩

/-- block g holds these numbers, and some cells behind them -/
def IS (w : World) (g : Nat) (t : TypeId) (k : IntKind) (l : List Int) (sp : List Value) : Prop := Blk w g t (l.map (Value.int k) ++ sp).toArray
section
variable {w w' : World} {g : Nat} {t : TypeId} {k : IntKind} {l : List Int} {sp : List Value}
theorem IS.lt (h : IS w g t k l sp) : g < w.heap.size := Blk.lt h
theorem IS.cell (h : IS w g t k l sp) {i : Nat} (hi : i < l.length) : w.cell? ⟨g, i, none⟩ = some (.int k (l.getD i 0)) := by
  rw [Blk.cell h]; simp [List.getD, List.getElem?_append_left, hi]
theorem IS.frozen (h : IS w g t k l sp) (i : Nat) : w.frozen? ⟨g, i, none⟩ = false := Blk.frozen h i
theorem IS.alloc (h : IS w g t k l sp) (o : Obj) : IS (w.alloc o) g t k l sp := Blk.alloc h o
theorem IS.drew (h : IS w g t k l sp) : IS w.drew g t k l sp := h
theorem IS.drewN (h : IS w g t k l sp) (n : Nat) : IS (w.drewN n) g t k l sp := h
theorem IS.set (h : IS w g t k l sp) {i : Nat} (hi : i < l.length) (x : Int) : IS (w.setCell ⟨g, i, none⟩ (.int k x)) g t k (l.set i x) sp := by
  have := Blk.set_ h i (.int k x)
  unfold IS
  have e : ((l.map (Value.int k) ++ sp).toArray).setIfInBounds i (.int k x) = ((l.set i x).map (Value.int k) ++ sp).toArray := by
    rw [List.map_set]; simp [hi]
  rw [← e]; exact this
theorem IS.far (h : IS w g t k l sp) {p : Addr} (hp : g ≠ p.block) (u : Value) : IS (w.setCell p u) g t k l sp := Blk.far h hp u
theorem IS.below {B : Nat} (h : IS w g t k l sp) (hb : Below B w w') (hg : g < B) : IS w' g t k l sp := Blk.below h hb hg
end

/-- a slice that reads as numbers of kind k -/
def RI (w : World) (k : IntKind) (v : Value) (l : List Int) : Prop := ∃ A c, v = .slice A l.length c ∧ l.length ≤ c ∧ Reads w w.heap.size 1 A l.length (l.map (Value.int k))
/-- a slice of the call's own, from block B on -/
def OI (w : World) (B : Nat) (t : TypeId) (k : IntKind) (v : Value) (l : List Int) : Prop := w.ownsRow B t 1 v l.length (l.map (Value.int k))

section
variable {w w' : World} {B : Nat} {t : TypeId} {k : IntKind} {v : Value} {l : List Int}
theorem RI.below (h : RI w k v l) (hb : Below w.heap.size w w') : RI w' k v l := by
  obtain ⟨A, c, e, hc, hr⟩ := h
  exact ⟨A, c, e, hc, (hr.below hb).more hb.size⟩
theorem OI.ri (h : OI w B t k v l) : RI w k v l := by
  unfold OI at h
  rcases h.2 with ⟨rfl, hn⟩ | ⟨g, cap, cur, rfl, _, _, hc, _⟩
  · have : l = [] := List.eq_nil_of_length_eq_zero hn
    subst this
    exact ⟨none, 0, rfl, Nat.le_refl _, Reads.of_own h⟩
  · exact ⟨_, cap, rfl, hc, Reads.of_own h⟩
theorem OI.below (h : OI w B t k v l) (hb : Below w.heap.size w w') : OI w' B t k v l :=
  World.ownsRow.kept h (row := none) ⟨hb.os, hb.tape, hb.output, hb.size, fun i hi _ => hb.block i hi⟩ (by cases e : v.ownBlock <;> simp)
theorem OI.nil (w : World) (B : Nat) (t : TypeId) (k : IntKind) : OI w B t k (.slice none 0 0) [] := World.ownsRow_nil w B t 1
theorem OI.mono {B' : Nat} (h : OI w B t k v l) (hB : B' ≤ B) : OI w B' t k v l := by
  refine ⟨h.1, ?_⟩
  rcases h.2 with h | ⟨g, cap, cur, e, hb, r⟩
  · exact .inl h
  · exact .inr ⟨g, cap, cur, e, by omega, r⟩
theorem OI.of_ib {g : Nat} (h : IB w g t k l) (hB : B ≤ g) (hm : l.length ≤ maxLen) : OI w B t k (.slice (some ⟨g, 0, none⟩) l.length l.length) l :=
  ⟨by simp, .inr ⟨g, l.length, _, rfl, hB, h, Nat.le_refl _, hm, by simp, by simp only [Nat.mul_one]; exact List.take_of_length_le (by simp)⟩⟩
/-- of no number, or at the head of a block -/
theorem OI.open (h : OI w B t k v l) : (v = .slice none 0 0 ∧ l = []) ∨ ∃ g cap sp, v = .slice (some ⟨g, 0, none⟩) l.length cap ∧ B ≤ g ∧ l.length ≤ cap ∧ cap ≤ maxLen ∧ l.length + sp.length = cap ∧ IS w g t k l sp := by
  rcases h.2 with ⟨rfl, hn⟩ | ⟨g, cap, cur, rfl, hB, hg, hc, hm, hs, ht⟩
  · exact .inl ⟨rfl, List.eq_nil_of_length_eq_zero hn⟩
  · refine .inr ⟨g, cap, cur.toList.drop l.length, rfl, hB, hc, hm, by simp [hs]; omega, ?_⟩
    have e : (l.map (Value.int k) ++ cur.toList.drop l.length).toArray = cur := by
      rw [← ht]; simp
    unfold IS Blk
    rw [e]; exact hg
theorem OI.mk {g cap : Nat} {sp : List Value} (h : IS w g t k l sp) (hB : B ≤ g) (hc : l.length + sp.length = cap) (hm : cap ≤ maxLen) : OI w B t k (.slice (some ⟨g, 0, none⟩) l.length cap) l :=
  ⟨by simp, .inr ⟨g, cap, _, rfl, hB, h, by omega, hm, by simp [hc], by simp⟩⟩
/-- one number in a block of its own -/
theorem RI.one (w : World) (t : TypeId) (k : IntKind) (x : Int) : RI (w.alloc (.cells #[.int k x] t)) k (.slice (some ⟨w.heap.size, 0, none⟩) 1 1) [x] := by
  have h := OI.of_ib (B := 0) (IB.new w t k [x]) (Nat.zero_le _) (by simp [maxLen])
  exact h.ri
/-- a cell of what is read -/
theorem RI.at_ {A : Option Addr} {n c : Nat} (h : RI w k (.slice A n c) l) {i : Nat} (hi : i < l.length) : n = l.length ∧ ∃ ad x, A = some ad ∧ l[i]? = some x ∧ w.cell? (ad.add i) = some (.int k x) := by
  obtain ⟨A', c', e, _, hr⟩ := h
  injection e with e1 e2 e3
  subst e1; subst e2
  obtain ⟨ad, y, rfl, _, hx, hcell⟩ := hr.at_ hi
  rw [List.getElem?_map] at hx
  cases h : l[i]? with
  | none => rw [h] at hx; simp at hx
  | some x => rw [h] at hx; simp at hx; exact ⟨rfl, ad, x, rfl, rfl, by rw [hx]; exact hcell⟩
/-- the first so many, and the others -/
theorem RI.slice_ {A : Option Addr} {n c i j : Nat} (h : RI w k (.slice A n c) l) (hij : i ≤ j) (hj : j ≤ n) :
    RI w k (.slice (if c = i then A else A.map (·.add i)) (j - i) (c - i)) ((l.drop i).take (j - i)) := by
  obtain ⟨A', c', e, hc, hr⟩ := h
  injection e with e1 e2 e3
  subst e1; subst e2; subst e3
  have hcut := hr.cut (k := i) (cap := c) (by omega) hc
  rw [Nat.mul_one] at hcut
  have hl : ((l.drop i).take (j - i)).length = j - i := by simp; omega
  refine ⟨_, c - i, by rw [hl], by rw [hl]; omega, ?_⟩
  rw [hl]
  refine ⟨by simp; omega, fun h0 => ?_⟩
  obtain ⟨ad, e, hb, hcell⟩ := hcut.2 (by omega)
  refine ⟨ad, e, hb, fun q u hq => hcell q u ?_⟩
  rw [← hq]
  rw [List.map_take, List.map_drop, List.getElem?_take]
  split
  · rfl
  · rename_i hge
    have hlt := (List.getElem?_eq_some_iff.1 hq).1
    simp at hlt; omega
theorem OI.lit (w : World) (t : TypeId) (k : IntKind) (l : List Int) (h : l.length ≤ 1000000) : OI (w.alloc (.cells (l.map (Value.int k)).toArray t)) w.heap.size t k (.slice (some ⟨w.heap.size, 0, none⟩) l.length l.length) l :=
  OI.of_ib (IB.new w t k l) (Nat.le_refl _) (by simp [maxLen]; omega)
theorem OI.form (h : OI w B t k v l) {n : Nat} (hn : l.length = n) (h0 : 0 < n) : ∃ g cap, v = .slice (some ⟨g, 0, none⟩) n cap ∧ B ≤ g ∧ n ≤ cap := by
  rcases h.open with ⟨_, rfl⟩ | ⟨g, cap, sp, rfl, hB, hc, _⟩
  · simp at hn; omega
  · rw [hn] at hc ⊢; exact ⟨g, cap, rfl, hB, hc⟩
theorem RI.take {A : Option Addr} {n c m : Nat} (h : RI w k (.slice A n c) l) (hm : m ≤ n) : RI w k (.slice A m c) (l.take m) := by
  have := h.slice_ (i := 0) (j := m) (Nat.zero_le _) hm
  rw [Nat.sub_zero, Nat.sub_zero, List.drop_zero] at this
  have e : (if c = 0 then A else A.map (·.add 0)) = A := by
    split
    · rfl
    · cases A <;> rfl
  rw [e] at this; exact this
theorem RI.len {A : Option Addr} {n c : Nat} (h : RI w k (.slice A n c) l) : n = l.length ∧ n ≤ c := by
  obtain ⟨A', c', e, hc, _⟩ := h
  injection e with e1 e2 e3
  subst e2; subst e3; exact ⟨rfl, hc⟩
theorem oneCell_ints {u : Value} (h : u ∈ l.map (Value.int k)) : u.oneCell' = true := by
  obtain ⟨x, _, rfl⟩ := List.mem_map.1 h; rfl
end

/-- a slice of slices that read as numbers of kind k -/
def RR (w : World) (k : IntKind) (v : Value) (ls : List (List Int)) : Prop :=
  ∃ (A : Option Addr) (c : Nat) (us : List Value), v = .slice A ls.length c ∧ ls.length ≤ c ∧ Reads w w.heap.size 1 A ls.length us ∧ ∀ (i : Nat) (u : Value) (l : List Int), us[i]? = some u → ls[i]? = some l → RI w k u l
theorem RR.two {W : World} {k : IntKind} {u v : Value} {l m : List Int} (t : TypeId) (hu : RI W k u l) (hv : RI W k v m) :
    RR (W.alloc (.cells #[u, v] t)) k (.slice (some ⟨W.heap.size, 0, none⟩) 2 2) [l, m] := by
  have hb : Below W.heap.size W (W.alloc (.cells #[u, v] t)) := (Below.refl _ _).alloc (Nat.le_refl _) _
  have hblk := Blk.new W t #[u, v]
  refine ⟨_, 2, [u, v], rfl, by simp, ⟨rfl, fun _ => ⟨_, rfl, by simp, fun j x hj => ?_⟩⟩, fun i x y h1 h2 => ?_⟩
  · have : (⟨W.heap.size, 0, none⟩ : Addr).add j = ⟨W.heap.size, j, none⟩ := by
      unfold Addr.add; split
      · subst_vars; rfl
      · simp
    rw [this, hblk.cell]; simpa using hj
  · rcases i with _ | _ | i
    · simp at h1 h2; subst h1; subst h2; exact hu.below hb
    · simp at h1 h2; subst h1; subst h2; exact hv.below hb
    · simp at h1
section
variable {w w' : World} {k : IntKind} {v : Value} {ls : List (List Int)}
theorem RR.below (h : RR w k v ls) (hb : Below w.heap.size w w') : RR w' k v ls := by
  obtain ⟨A, c, us, e, hc, hr, hi⟩ := h
  exact ⟨A, c, us, e, hc, (hr.below hb).more hb.size, fun i u l h1 h2 => (hi i u l h1 h2).below hb⟩
theorem RR.at_ {A : Option Addr} {n c : Nat} (h : RR w k (.slice A n c) ls) {i : Nat} {l : List Int} (hi : ls[i]? = some l) : n = ls.length ∧ ∃ ad u, A = some ad ∧ w.cell? (ad.add i) = some u ∧ RI w k u l := by
  obtain ⟨A', c', us, e, _, hr, hri⟩ := h
  injection e with e1 e2 e3
  subst e1; subst e2
  have hlt := (List.getElem?_eq_some_iff.1 hi).1
  obtain ⟨ad, u, rfl, _, hx, hcell⟩ := hr.at_ hlt
  exact ⟨rfl, ad, u, rfl, hcell, hri i u l hx hi⟩
end

section
variable {P : Program} {w : World} {g : Nat} {t ty : TypeId} {cs : Array Value} {d : TypeDesc}
theorem load_blk (hg : Blk w g t cs) (hd : (match d with | .struct _ | .array _ _ => true | _ => false) = true) (hu : P.underlying ty = some d) (hi : (P.info? ty).map (·.size) = some cs.size) :
    (loadVar ty ⟨g, 0, none⟩).run P w = .ok (.agg cs) w := run_loadVar_row w g t ty cs (0, 0) d hg hu (by cases d <;> first | rfl | cases hd) hi
/-- an array and one more are handed back -/
theorem results_blk_tmp {fn : Func} {p u : Tmp} (h : fn.results = #[.cell p ty, .tmp u]) {tmps : Array Value} (hp : tmps.getD p undef = .pointer (some ⟨g, 0, none⟩))
    (hg : Blk w g t cs) (hd : (match d with | .struct _ | .array _ _ => true | _ => false) = true) (hu : P.underlying ty = some d) (hi : (P.info? ty).map (·.size) = some cs.size) :
    (results fn tmps).run P w = .ok (.tuple #[.agg cs, tmps.getD u undef]) w := by
  rw [results_cell_tmp h]
  have hp' := hp
  simp only [Array.getD_eq_getD_getElem?] at hp'
  simp [hp', asAddr, load_blk hg hd hu hi]
/-- an array is handed back -/
theorem results_blk {fn : Func} {p : Tmp} (h : fn.results = #[.cell p ty]) {tmps : Array Value} (hp : tmps.getD p undef = .pointer (some ⟨g, 0, none⟩))
    (hg : Blk w g t cs) (hd : (match d with | .struct _ | .array _ _ => true | _ => false) = true) (hu : P.underlying ty = some d) (hi : (P.info? ty).map (·.size) = some cs.size) :
    (results fn tmps).run P w = .ok (.agg cs) w := by
  have hp' := hp
  simp only [Array.getD_eq_getD_getElem?] at hp'
  simp [results, h, hp', asAddr, load_blk hg hd hu hi]
end
end Go.Chr
