/- Contracts of the reference's layer 10: Decode. -/
import Derived.Test.YteicdkknciljhaaRef10c
namespace Go.Proofs.Yteicdkknciljhaa
open Go.RowKit Go.Chr

/-- what the reference decodes -/
def refDec (l : List Int) : Option (List Int × List Int) :=
  if l.length < 8 ∨ 72 < l.length then none
  else if l.length < 6 + (l.getD 3 0).toNat then none
  else
    if derE (leB (numB ((l.drop 4).take (l.getD 3 0).toNat))).reverse (leB (numB (l.drop (6 + (l.getD 3 0).toNat)))).reverse = l
    then some (numB ((l.drop 4).take (l.getD 3 0).toNat), numB (l.drop (6 + (l.getD 3 0).toNat))) else none

theorem numB_pBody (A : List Int) (hl : A.length = 32) : numB (pBody A) = leN A.reverse := by
  have hne : A ≠ [] := by rintro rfl; cases hl
  have hp := pad_pBody A hne
  unfold numB
  rw [hl] at hp
  rw [hp, List.length_cons, hl]
  rfl

theorem numB_bd (l : List Int) (hb : ∀ x ∈ l, 0 ≤ x ∧ x < 256) : ∀ x ∈ numB l, 0 ≤ x ∧ x < 2 ^ 64 := by
  refine leN_bd _ fun x hx => ?_
  have hx := List.mem_of_mem_drop (List.mem_reverse.1 hx)
  rw [List.mem_append] at hx
  rcases hx with hx | hx
  · have := List.eq_of_mem_replicate hx; omega
  · exact hb x hx

theorem leN_leB' (L : List Int) (hL : ∃ a0 a1 a2 a3, L = [a0, a1, a2, a3]) (h : ∀ x ∈ L, 0 ≤ x ∧ x < 2 ^ 64) : leN (leB L) = L := by
  obtain ⟨a0, a1, a2, a3, rfl⟩ := hL
  exact leN_leB _ _ _ _ h

theorem limbs_bd {l a b : List Int} (hb : ∀ x ∈ l, 0 ≤ x ∧ x < 256) (h : decB l = some (a, b)) : leN (leB a) = a ∧ leN (leB b) = b := by
  have hc := decB_canon hb h
  have h2 := decB_derE (leB a).reverse (leB b).reverse (by simp [leB_length]) (by simp [leB_length]) (fun x hx => leB_bd _ x (List.mem_reverse.1 hx)) (fun x hx => leB_bd _ x (List.mem_reverse.1 hx))
  rw [← hc, h, List.reverse_reverse, List.reverse_reverse] at h2
  injection h2 with h2
  injection h2 with e1 e2
  exact ⟨e1.symm, e2.symm⟩

/-- the reference decodes so -/
theorem refDec_eq (l : List Int) (hb : ∀ x ∈ l, 0 ≤ x ∧ x < 256) : refDec l = decB l := by
  cases h : decB l with
  | some p =>
    obtain ⟨a, b⟩ := p
    have hc := decB_canon hb h
    obtain ⟨e1, e2⟩ := limbs_bd hb h
    obtain ⟨A, hA⟩ : ∃ A, A = (leB a).reverse := ⟨_, rfl⟩
    obtain ⟨B, hB⟩ : ∃ B, B = (leB b).reverse := ⟨_, rfl⟩
    have lA : A.length = 32 := by rw [hA]; simp [leB_length]
    have lB : B.length = 32 := by rw [hB]; simp [leB_length]
    have nA : A ≠ [] := by rintro rfl; cases lA
    have nB : B ≠ [] := by rintro rfl; cases lB
    rw [← hA, ← hB] at hc
    obtain ⟨k1, k2⟩ := derE_len A B nA nB lA lB
    rw [← hc] at k1 k2
    have g3 : (l.getD 3 0).toNat = (pBody A).length := by
      rw [hc, derE, derI]; simp [List.getD]
    have hd4 : (l.drop 4).take (pBody A).length = pBody A := by
      rw [hc, derE, derI]; simp
    have hd6 : l.drop (6 + (pBody A).length) = pBody B := by
      rw [hc, derE, derI, derI, show 6 + (pBody A).length = (((pBody A).length + 2) + 4) by omega]
      simp only [List.cons_append, List.drop_succ_cons]
      rw [show pBody A ++ 2 :: ((pBody B).length : Int) :: pBody B = (pBody A ++ [2, ((pBody B).length : Int)]) ++ pBody B by simp]
      exact List.drop_left' (by simp)
    have hlen : ¬ l.length < 6 + (pBody A).length := by
      rw [hc, derE, derI, derI]; simp only [List.length_cons, List.length_append]; omega
    unfold refDec
    rw [if_neg (by omega), g3, if_neg hlen, hd4, hd6, numB_pBody A lA, numB_pBody B lB, hA, hB, List.reverse_reverse, List.reverse_reverse, e1, e2, ← hA, ← hB, if_pos hc.symm]
  | none =>
    unfold refDec
    split
    · rfl
    · split
      · rfl
      · split
        · rename_i hE
          have b1 := numB_bd ((l.drop 4).take (l.getD 3 0).toNat) (fun x hx => hb x (List.mem_of_mem_drop (List.mem_of_mem_take hx)))
          have b2 := numB_bd (l.drop (6 + (l.getD 3 0).toNat)) (fun x hx => hb x (List.mem_of_mem_drop hx))
          have h2 := decB_derE (leB (numB ((l.drop 4).take (l.getD 3 0).toNat))).reverse (leB (numB (l.drop (6 + (l.getD 3 0).toNat)))).reverse (by simp [leB_length]) (by simp [leB_length]) (fun x hx => leB_bd _ x (List.mem_reverse.1 hx)) (fun x hx => leB_bd _ x (List.mem_reverse.1 hx))
          rw [hE, h] at h2
          cases h2
        · rfl

theorem refDec_results {a b : Nat} {xs ys : Array Value} {t : Bool} {tmps : Array Value} {w : World} (h2 : tmps.getD 2 undef = .pointer (some ⟨a, 0, none⟩)) (h3 : tmps.getD 3 undef = .pointer (some ⟨b, 0, none⟩)) (h4 : tmps.getD 4 undef = .bool t)
    (ha : Blk w a 26 xs) (hb : Blk w b 26 ys) (hx : xs.size = 4) (hy : ys.size = 4) :
    (results Try.f8 tmps).run Try.prog w = .ok (.tuple #[.agg xs, .agg ys, .bool t]) w := by
  have la := load_blk (P := Try.prog) (ty := 26) (d := .array 4 24) ha rfl Try.underlying26 (by rw [hx]; kernel_rfl)
  have lb := load_blk (P := Try.prog) (ty := 26) (d := .array 4 24) hb rfl Try.underlying26 (by rw [hy]; kernel_rfl)
  have h2' := h2
  have h3' := h3
  have h4' := h4
  simp only [Array.getD_eq_getD_getElem?] at h2' h3' h4'
  simp [results, Try.results8, h2', h3', h4', asAddr, la, lb]

theorem blk_cells {w : World} {g : Nat} {t : TypeId} {c0 c1 c2 c3 : Value} (h : Blk w g t #[c0, c1, c2, c3]) : w.cell? ⟨g, 0, none⟩ = some c0 ∧ w.cell? ⟨g, 1, none⟩ = some c1 ∧ w.cell? ⟨g, 2, none⟩ = some c2 ∧ w.cell? ⟨g, 3, none⟩ = some c3 := by
  refine ⟨?_, ?_, ?_, ?_⟩ <;> rw [h.cell] <;> rfl
theorem cellsOf8 : Try.prog.cellsOf 5 = 1 := by kernel_rfl
theorem slice_lh (W : World) (ad : Addr) (N c l h : Nat) (h1 : l ≤ h) (h2 : h ≤ c) (hne : c ≠ l) :
    (Instr.slice 22 (.slice (some ad) N c) (some (.int .i64 l)) (some (.int .i64 h)) none).run Try.prog W = .ok (.slice (some (ad.add l)) (h - l) (c - l)) W := by
  obtain ⟨i0, hi0, hz0, hz1, hz2⟩ := info_parts info_u8
  have hel : Try.prog.elem 22 = 5 := by kernel_rfl
  rw [run_slice_lh (P := Try.prog) (w := W) (t := 22) (a := some ad) (len := N) (cap := c) (ht := by rw [hel]; exact Try.underlying22) (kl := .i64) (kh := .i64) (l := l) (h := h) (by omega) (by omega) (by omega), hel, run_sizeOf W hi0, cellsOf8]
  simp [sliced, hne]
theorem slice_l (W : World) (ad : Addr) (N c l : Nat) (h1 : l ≤ N) :
    (Instr.slice 22 (.slice (some ad) N c) (some (.int .i64 l)) none none).run Try.prog W = .ok (.slice (if c = l then some ad else some (ad.add l)) (N - l) (c - l)) W := by
  obtain ⟨i0, hi0, hz0, hz1, hz2⟩ := info_parts info_u8
  have hel : Try.prog.elem 22 = 5 := by kernel_rfl
  rw [run_slice_l (P := Try.prog) (w := W) (t := 22) (a := some ad) (len := N) (cap := c) (ht := by rw [hel]; exact Try.underlying22) (kl := .i64) (l := l) (by omega) (by omega), hel, run_sizeOf W hi0, cellsOf8]
  simp [sliced]

abbrev nz : Array Value := #[.int .u64 0, .int .u64 0, .int .u64 0, .int .u64 0]
abbrev nv (x0 x1 x2 x3 : Int) : Array Value := #[.int .u64 x0, .int .u64 x1, .int .u64 x2, .int .u64 x3]
abbrev set4 (W : World) (g : Nat) (x0 x1 x2 x3 : Int) : World := (((W.setCell ⟨g, 0, none⟩ (.int .u64 x0)).setCell ⟨g, 1, none⟩ (.int .u64 x1)).setCell ⟨g, 2, none⟩ (.int .u64 x2)).setCell ⟨g, 3, none⟩ (.int .u64 x3)
theorem set4_blk {W : World} {g : Nat} (h : Blk W g 26 nz) (x0 x1 x2 x3 : Int) : Blk (set4 W g x0 x1 x2 x3) g 26 (nv x0 x1 x2 x3) ∧ W.grownBy (set4 W g x0 x1 x2 x3) (some g) :=
  ⟨(((h.set_ 0 (.int .u64 x0)).set_ 1 (.int .u64 x1)).set_ 2 (.int .u64 x2)).set_ 3 (.int .u64 x3),
    gb_set (p := ⟨g, 3, none⟩) (gb_set (p := ⟨g, 2, none⟩) (gb_set (p := ⟨g, 1, none⟩) (gb_set (p := ⟨g, 0, none⟩) (World.grownBy.refl W _) rfl _) rfl _) rfl _) rfl _⟩

/-- what lies behind the two numbers -/
def Rest2 (w W : World) (g6 g7 : Nat) (r s : Array Value) : Prop :=
  Blk W g6 26 r ∧ Blk W g7 26 s ∧ Blk W w.heap.size 26 nz ∧ Blk W (w.heap.size + 1) 26 nz ∧ Below w.heap.size w W

def Base2 (w W : World) : Prop := Blk W w.heap.size 26 nz ∧ Blk W (w.heap.size + 1) 26 nz ∧ Below w.heap.size w W
theorem Base2.lt {w W : World} (h : Base2 w W) : w.heap.size + 1 < W.heap.size := h.2.1.lt
theorem Base2.bel {w W : World} (h : Base2 w W) : Below w.heap.size w W := h.2.2
theorem Base2.below {w W W' : World} (h : Base2 w W) (hb : Below W.heap.size W W') : Base2 w W' := ⟨h.1.below hb h.1.lt, h.2.1.below hb h.2.1.lt, h.2.2.trans (hb.mono h.2.2.size)⟩
theorem Base2.alloc {w W : World} (h : Base2 w W) (o : Obj) : Base2 w (W.alloc o) := h.below ((Below.refl _ _).alloc (Nat.le_refl _) o)
theorem Base2.grown {w W W' : World} {g : Nat} (h : Base2 w W) (hg : w.heap.size + 1 < g) (hb : W.grownBy W' (some g)) : Base2 w W' :=
  ⟨h.1.grown hb (by simp; omega), h.2.1.grown hb (by simp; omega), h.2.2.trans (gb_to_below hb h.2.2.size (fun k e => by injection e; omega))⟩

theorem none_known {w w2 : World} (hb : Base2 w w2) (r0 r1 r2 r3 s0 s1 s2 s3 : Int) :
    (∃ WF g6 g7, g7 = w2.heap.size + 1 ∧ g6 = w2.heap.size ∧ WF = (w2.alloc (.cells #[.int .u64 r0, .int .u64 r1, .int .u64 r2, .int .u64 r3] 26)).alloc (.cells #[.int .u64 s0, .int .u64 s1, .int .u64 s2, .int .u64 s3] 26) ∧ w.heap.size + 1 < g6 ∧ w.heap.size + 1 < g7 ∧ Rest2 w WF g6 g7 (nv r0 r1 r2 r3) (nv s0 s1 s2 s3)) ∧
    ∃ WF g6 g7, g6 = w2.heap.size + 1 ∧ g7 = w2.heap.size ∧ WF = (w2.alloc (.cells #[.int .u64 s0, .int .u64 s1, .int .u64 s2, .int .u64 s3] 26)).alloc (.cells #[.int .u64 r0, .int .u64 r1, .int .u64 r2, .int .u64 r3] 26) ∧ w.heap.size + 1 < g6 ∧ w.heap.size + 1 < g7 ∧ Rest2 w WF g6 g7 (nv r0 r1 r2 r3) (nv s0 s1 s2 s3) := by
  have n1 := Blk.new (w2.alloc (.cells (nv r0 r1 r2 r3) 26)) 26 (nv s0 s1 s2 s3)
  have n2 := Blk.new (w2.alloc (.cells (nv s0 s1 s2 s3) 26)) 26 (nv r0 r1 r2 r3)
  have e : ∀ o, (w2.alloc o).heap.size = w2.heap.size + 1 := fun o => by simp
  rw [e] at n1 n2
  obtain ⟨a1, a2, a3⟩ := (hb.alloc (.cells (nv r0 r1 r2 r3) 26)).alloc (.cells (nv s0 s1 s2 s3) 26)
  obtain ⟨b1, b2, b3⟩ := (hb.alloc (.cells (nv s0 s1 s2 s3) 26)).alloc (.cells (nv r0 r1 r2 r3) 26)
  have hl := hb.lt
  exact ⟨⟨_, _, _, rfl, rfl, rfl, by omega, by omega, (Blk.new w2 _ _).alloc _, n1, a1, a2, a3⟩, ⟨_, _, _, rfl, rfl, rfl, by omega, by omega, n2, (Blk.new w2 _ _).alloc _, b1, b2, b3⟩⟩

theorem one_known {w w2 : World} {g : Nat} (hb : Base2 w w2) (hg : w.heap.size + 1 < g) (h : Blk w2 g 26 nz) (r0 r1 r2 r3 s0 s1 s2 s3 : Int) :
    (∃ WF g6 g7, g7 = w2.heap.size ∧ g6 = g ∧ WF = ((((w2.setCell ⟨g, 0, none⟩ (.int .u64 r0)).setCell ⟨g, 1, none⟩ (.int .u64 r1)).setCell ⟨g, 2, none⟩ (.int .u64 r2)).setCell ⟨g, 3, none⟩ (.int .u64 r3)).alloc (.cells #[.int .u64 s0, .int .u64 s1, .int .u64 s2, .int .u64 s3] 26) ∧ w.heap.size + 1 < g6 ∧ w.heap.size + 1 < g7 ∧ Rest2 w WF g6 g7 (nv r0 r1 r2 r3) (nv s0 s1 s2 s3)) ∧
    ∃ WF g6 g7, g6 = w2.heap.size ∧ g7 = g ∧ WF = ((((w2.setCell ⟨g, 0, none⟩ (.int .u64 s0)).setCell ⟨g, 1, none⟩ (.int .u64 s1)).setCell ⟨g, 2, none⟩ (.int .u64 s2)).setCell ⟨g, 3, none⟩ (.int .u64 s3)).alloc (.cells #[.int .u64 r0, .int .u64 r1, .int .u64 r2, .int .u64 r3] 26) ∧ w.heap.size + 1 < g6 ∧ w.heap.size + 1 < g7 ∧ Rest2 w WF g6 g7 (nv r0 r1 r2 r3) (nv s0 s1 s2 s3) := by
  obtain ⟨k1, m1⟩ := set4_blk h r0 r1 r2 r3
  obtain ⟨k2, m2⟩ := set4_blk h s0 s1 s2 s3
  obtain ⟨a1, a2, a3⟩ := (hb.grown hg m1).alloc (.cells (nv s0 s1 s2 s3) 26)
  obtain ⟨b1, b2, b3⟩ := (hb.grown hg m2).alloc (.cells (nv r0 r1 r2 r3) 26)
  have n1 := Blk.new (set4 w2 g r0 r1 r2 r3) 26 (nv s0 s1 s2 s3)
  have n2 := Blk.new (set4 w2 g s0 s1 s2 s3) 26 (nv r0 r1 r2 r3)
  have e : ∀ x0 x1 x2 x3, (set4 w2 g x0 x1 x2 x3).heap.size = w2.heap.size := fun _ _ _ _ => by simp [World.setCell]
  rw [e] at n1 n2
  have hl := hb.lt
  exact ⟨⟨_, _, _, rfl, rfl, rfl, hg, hl, k1.alloc _, n1, a1, a2, a3⟩, ⟨_, _, _, rfl, rfl, rfl, hl, hg, n2, k2.alloc _, b1, b2, b3⟩⟩

theorem two_known {w w2 : World} {g g' : Nat} (hb : Base2 w w2) (hg : w.heap.size + 1 < g) (hg' : w.heap.size + 1 < g') (hne : g ≠ g') (h : Blk w2 g 26 nz) (h' : Blk w2 g' 26 nz) (r0 r1 r2 r3 s0 s1 s2 s3 : Int) :
    ∃ WF g6 g7, g6 = g ∧ g7 = g' ∧ WF = (((((((w2.setCell ⟨g, 0, none⟩ (.int .u64 r0)).setCell ⟨g, 1, none⟩ (.int .u64 r1)).setCell ⟨g, 2, none⟩ (.int .u64 r2)).setCell ⟨g, 3, none⟩ (.int .u64 r3)).setCell ⟨g', 0, none⟩ (.int .u64 s0)).setCell ⟨g', 1, none⟩ (.int .u64 s1)).setCell ⟨g', 2, none⟩ (.int .u64 s2)).setCell ⟨g', 3, none⟩ (.int .u64 s3) ∧
      w.heap.size + 1 < g6 ∧ w.heap.size + 1 < g7 ∧ Rest2 w WF g6 g7 (nv r0 r1 r2 r3) (nv s0 s1 s2 s3) := by
  obtain ⟨k3, m3⟩ := set4_blk h r0 r1 r2 r3
  obtain ⟨k4, m4⟩ := set4_blk (W := set4 w2 g r0 r1 r2 r3) (h'.grown m3 (by simp; omega)) s0 s1 s2 s3
  obtain ⟨a1, a2, a3⟩ := (hb.grown hg m3).grown hg' m4
  exact ⟨_, _, _, rfl, rfl, rfl, hg, hg', ⟨k3.grown m4 (by simp; omega), k4, a1, a2, a3⟩⟩

theorem fin_set {w W : World} (h1 : Blk W w.heap.size 26 nz) (h2 : Blk W (w.heap.size + 1) 26 nz) (hb : Below w.heap.size w W) (r0 r1 r2 r3 s0 s1 s2 s3 : Int) :
    Blk ((((((((W.setCell ⟨w.heap.size, 0, none⟩ (.int .u64 r0)).setCell ⟨w.heap.size, 1, none⟩ (.int .u64 r1)).setCell ⟨w.heap.size, 2, none⟩ (.int .u64 r2)).setCell ⟨w.heap.size, 3, none⟩ (.int .u64 r3)).setCell ⟨w.heap.size + 1, 0, none⟩ (.int .u64 s0)).setCell ⟨w.heap.size + 1, 1, none⟩ (.int .u64 s1)).setCell ⟨w.heap.size + 1, 2, none⟩ (.int .u64 s2)).setCell ⟨w.heap.size + 1, 3, none⟩ (.int .u64 s3)) w.heap.size 26 #[.int .u64 r0, .int .u64 r1, .int .u64 r2, .int .u64 r3] ∧
    Blk ((((((((W.setCell ⟨w.heap.size, 0, none⟩ (.int .u64 r0)).setCell ⟨w.heap.size, 1, none⟩ (.int .u64 r1)).setCell ⟨w.heap.size, 2, none⟩ (.int .u64 r2)).setCell ⟨w.heap.size, 3, none⟩ (.int .u64 r3)).setCell ⟨w.heap.size + 1, 0, none⟩ (.int .u64 s0)).setCell ⟨w.heap.size + 1, 1, none⟩ (.int .u64 s1)).setCell ⟨w.heap.size + 1, 2, none⟩ (.int .u64 s2)).setCell ⟨w.heap.size + 1, 3, none⟩ (.int .u64 s3)) (w.heap.size + 1) 26 #[.int .u64 s0, .int .u64 s1, .int .u64 s2, .int .u64 s3] ∧
    Below w.heap.size w ((((((((W.setCell ⟨w.heap.size, 0, none⟩ (.int .u64 r0)).setCell ⟨w.heap.size, 1, none⟩ (.int .u64 r1)).setCell ⟨w.heap.size, 2, none⟩ (.int .u64 r2)).setCell ⟨w.heap.size, 3, none⟩ (.int .u64 r3)).setCell ⟨w.heap.size + 1, 0, none⟩ (.int .u64 s0)).setCell ⟨w.heap.size + 1, 1, none⟩ (.int .u64 s1)).setCell ⟨w.heap.size + 1, 2, none⟩ (.int .u64 s2)).setCell ⟨w.heap.size + 1, 3, none⟩ (.int .u64 s3)) := by
  obtain ⟨k1, m1⟩ := set4_blk h1 r0 r1 r2 r3
  obtain ⟨k2, m2⟩ := set4_blk (W := set4 W w.heap.size r0 r1 r2 r3) (h2.grown m1 (by simp)) s0 s1 s2 s3
  refine ⟨k1.grown m2 (by simp), k2, ?_⟩
  exact (hb.trans (gb_to_below m1 hb.size (fun k e => by injection e; omega))).trans (gb_to_below m2 (Nat.le_trans hb.size m1.size) (fun k e => by injection e; omega))

set_option maxRecDepth 100000 in
set_option maxHeartbeats 4000000 in
theorem refDecode_any (u : Value) (l : List Int) (w : World) (hu : RI w .u8 u l) (hlen : l.length ≤ 200) (hby : ∀ x ∈ l, 0 ≤ x ∧ x < 256) :
    Calls Try.prog 8 #[u] w (RetD w (refDec l)) := by
  obtain ⟨A, c, rfl, hc, hr⟩ := hu
  have hu : RI w .u8 (.slice A l.length c) l := ⟨A, c, rfl, hc, hr⟩
  have hbl : Below w.heap.size w ((w.alloc (.cells #[.int .u64 0, .int .u64 0, .int .u64 0, .int .u64 0] 26)).alloc (.cells #[.int .u64 0, .int .u64 0, .int .u64 0, .int .u64 0] 26)) := ((Below.refl _ _).alloc (Nat.le_refl _) _).alloc (by simp) _
  have HBL := Lib.hid hbl
  have HU := Lib.hid hu
  have HBY := Lib.hid hby
  obtain ⟨D, hD⟩ : ∃ D, D = refDec l := ⟨_, rfl⟩
  rw [← hD]
  unfold refDec at hD
  obtain ⟨N, hN⟩ : ∃ N, N = l.length := ⟨_, rfl⟩
  rw [← hN] at hD HU hlen hc ⊢
  have HN := Lib.hid hN
  clear hN hr hu hby hbl
  go_enter Try.func8, Try.ntmps8
  have Z1 := Lib.hid ((Blk.new w 26 #[.int .u64 0, .int .u64 0, .int .u64 0, .int .u64 0]).alloc (.cells #[.int .u64 0, .int .u64 0, .int .u64 0, .int .u64 0] 26))
  have Z2 : Hid (Blk ((w.alloc (.cells #[.int .u64 0, .int .u64 0, .int .u64 0, .int .u64 0] 26)).alloc (.cells #[.int .u64 0, .int .u64 0, .int .u64 0, .int .u64 0] 26)) (w.heap.size + 1) 26 #[.int .u64 0, .int .u64 0, .int .u64 0, .int .u64 0]) := by
    have := Blk.new (w.alloc (.cells #[.int .u64 0, .int .u64 0, .int .u64 0, .int .u64 0] 26)) 26 #[.int .u64 0, .int .u64 0, .int .u64 0, .int .u64 0]
    exact Lib.hid (by simpa using this)
  by_cases h8 : N < 8 ∨ 72 < N
  · rw [if_pos h8] at hD
    subst hD
    have dd : decide ((N : Int) < 8) = true ∨ (decide ((N : Int) < 8) = false ∧ decide ((72 : Int) < N) = true) := by
      rcases h8 with h | h
      · left; simp; omega
      · right; simp; omega
    clear h8
    rcases dd with d1 | ⟨d1, d2⟩
    all_goals
      go_wp2
      exact bodyPost_ret (refDec_results rfl rfl rfl Z1.out Z2.out rfl rfl) rfl ⟨rfl, HBL.out⟩
  · have h8' := h8
    rw [if_neg h8] at hD
    clear h8
    have d1 : decide ((N : Int) < 8) = false := by simp; omega
    have d2 : decide ((72 : Int) < N) = false := by simp; omega
    have hu1 := HU.out.below HBL.out
    obtain ⟨-, ad, x, rfl, hx, hcell⟩ := hu1.at_ (i := 3) (by rw [← HN.out]; omega)
    have hxb := HBY.out x (List.mem_of_getElem? hx)
    have hg : l.getD 3 0 = x := by rw [List.getD, hx]; rfl
    rw [hg] at hD
    obtain ⟨q, rfl⟩ : ∃ q : Nat, x = q := ⟨x.toNat, by omega⟩
    rw [Int.toNat_natCast] at hD
    have hcell3 : (((w.alloc (.cells #[.int .u64 0, .int .u64 0, .int .u64 0, .int .u64 0] 26)).alloc (.cells #[.int .u64 0, .int .u64 0, .int .u64 0, .int .u64 0] 26))).cell? ⟨ad.block, ad.off + 3, none⟩ = some (.int .u8 q) := hcell
    have i3 : (3 : Int) < N := by omega
    clear hcell hx hg hu1
    by_cases h6 : N < 6 + q
    · rw [if_pos h6] at hD
      subst hD
      have d3 : decide ((N : Int) < 6 + q) = true := by simp; omega
      go_wp2
      exact bodyPost_ret (refDec_results rfl rfl rfl Z1.out Z2.out rfl rfl) rfl ⟨rfl, HBL.out⟩
    · rw [if_neg h6] at hD
      have d3 : decide ((N : Int) < 6 + q) = false := by simp; omega
      have HD := Lib.hid hD; clear hD
      have hs1 := HU.out.slice_ (i := 4) (j := 4 + q) (by omega) (by omega)
      have hs2 := HU.out.slice_ (i := 6 + q) (j := N) (by omega) (Nat.le_refl _)
      rw [if_neg (show c ≠ 4 by omega), show 4 + q - 4 = q by omega] at hs1
      have ht2 : (l.drop (6 + q)).take (N - (6 + q)) = l.drop (6 + q) := List.take_of_length_le (by rw [List.length_drop, ← HN.out]; exact Nat.le_refl _)
      rw [ht2] at hs2
      have e4 : ad.add 4 = ⟨ad.block, ad.off + 4, none⟩ := rfl
      simp only [Option.map_some, e4] at hs1 hs2
      obtain ⟨r0, r1, r2, r3, hR⟩ : ∃ r0 r1 r2 r3, numB ((l.drop 4).take q) = [r0, r1, r2, r3] := ⟨_, _, _, _, rfl⟩
      obtain ⟨s0, s1, s2, s3, hS⟩ : ∃ s0 s1 s2 s3, numB (l.drop (6 + q)) = [s0, s1, s2, s3] := ⟨_, _, _, _, rfl⟩
      have b1 := numB_bd ((l.drop 4).take q) (fun x hx => HBY.out x (List.mem_of_mem_drop (List.mem_of_mem_take hx)))
      have b2 := numB_bd (l.drop (6 + q)) (fun x hx => HBY.out x (List.mem_of_mem_drop hx))
      rw [hR] at b1
      rw [hS] at b2
      have k1 := fun W (hB : Below w.heap.size w W) => refNumber_any _ _ W (hs1.below hB) (by rw [List.length_take]; omega) (fun x hx => HBY.out x (List.mem_of_mem_drop (List.mem_of_mem_take hx)))
      have k2 := fun W (hB : Below w.heap.size w W) => refNumber_any _ _ W (hs2.below hB) (by rw [List.length_drop, ← HN.out]; omega) (fun x hx => HBY.out x (List.mem_of_mem_drop hx))
      simp only [hR, List.map_cons, List.map_nil] at k1
      simp only [hS, List.map_cons, List.map_nil] at k2
      have hD := HD.out
      rw [hR, hS] at hD
      have HD2 := Lib.hid hD
      have B1 := Lib.hid b1; have B2 := Lib.hid b2; have K1 := Lib.hid k1; have K2 := Lib.hid k2
      clear HD hD hs1 hs2 ht2 e4 hR hS b1 b2 k1 k2
      obtain ⟨sl, hsl⟩ : ∃ sl, sl = Value.slice (if c = 6 + q then some ad else some (ad.add (6 + q))) (N - (6 + q)) (c - (6 + q)) := ⟨_, rfl⟩
      have R1 : ∀ W, (Instr.slice 22 (.slice (some ad) N c) (some (.int .i64 4)) (some (.int .i64 (4 + (q : Int)))) none).run Try.prog W = .ok (.slice (some ⟨ad.block, ad.off + 4, none⟩) q (c - 4)) W := fun W => by
        have := slice_lh W ad N c 4 (4 + q) (by omega) (by omega) (by omega)
        rw [show 4 + q - 4 = q by omega] at this
        exact this
      have R2 : ∀ W, (Instr.slice 22 (.slice (some ad) N c) (some (.int .i64 (6 + (q : Int)))) none none).run Try.prog W = .ok sl W := fun W => by
        rw [hsl]; exact slice_l W ad N c (6 + q) (by omega)
      have k2 := K2.out
      rw [← hsl] at k2
      clear hsl K2
      have K2 := Lib.hid k2
      clear k2
      have W1 : IntKind.i64.wrap (4 + (q : Int)) = 4 + q := by rw [IntKind.wrap_i64]; omega
      have W2 : IntKind.i64.wrap (6 + (q : Int)) = 6 + q := by rw [IntKind.wrap_i64]; omega
      go_wp2_with fail
      obtain ⟨V, hV⟩ : ∃ V, V = ((w.alloc (.cells #[.int .u64 0, .int .u64 0, .int .u64 0, .int .u64 0] 26)).alloc (.cells #[.int .u64 0, .int .u64 0, .int .u64 0, .int .u64 0] 26)) := ⟨_, rfl⟩
      have f0 := Lib.hid (show Below w.heap.size w V by rw [hV]; exact HBL.out)
      have hbase := Lib.hid (show Base2 w V from ⟨by rw [hV]; exact Z1.out, by rw [hV]; exact Z2.out, f0.out⟩)
      rw [← hV]
      clear hV Z1 Z2 HBL
      have hsz := hbase.out.lt
      have f0a := Lib.hid (show ∀ o, Below w.heap.size w (V.alloc o).drew from fun o => (f0.out.alloc f0.out.size o).drew)
      have f0b := Lib.hid (show ∀ o o', Below w.heap.size w ((V.alloc o).alloc o').drew from fun o o' => ((f0.out.alloc f0.out.size o).alloc (f0.out.alloc f0.out.size o).size o').drew)
      have f00 := Lib.hid (show Below w.heap.size w V.drew from f0.out.drew)
      have hbd0 := Lib.hid (show Base2 w V.drew from ⟨hbase.out.1.drew, hbase.out.2.1.drew, hbase.out.2.2.drew⟩)
      have hbd1 := Lib.hid (show ∀ o, Base2 w (V.alloc o).drew from fun o => ⟨(hbase.out.alloc o).1.drew, (hbase.out.alloc o).2.1.drew, (hbase.out.alloc o).2.2.drew⟩)
      have hbd2 := Lib.hid (show ∀ o o', Base2 w ((V.alloc o).alloc o').drew from fun o o' => ⟨((hbase.out.alloc o).alloc o').1.drew, ((hbase.out.alloc o).alloc o').2.1.drew, ((hbase.out.alloc o).alloc o').2.2.drew⟩)
      go_region_held3 (fun _ => True) (trivial)
        (first
          | (go_at_call 15; (with_reducible refine (K1.out _ ?_).mono ?_); (first | (with_reducible exact f0b.out _ _) | (with_reducible exact f0a.out _) | (with_reducible exact f00.out)); rintro e w1 ⟨rfl, hb1⟩
             first
             | (with_reducible have hx := Lib.hid (hbd0.out.below hb1); clear hb1)
             | (with_reducible have f1 := Lib.hid (Blk.below (Blk.drew (Blk.new V 26 #[.int .u64 0, .int .u64 0, .int .u64 0, .int .u64 0])) hb1 (by simp [World.drew])); have g1 := Lib.hid (show w.heap.size + 1 < V.heap.size from hsz); have hx := Lib.hid ((hbd1.out _).below hb1); clear hb1)
             | (have f1 := Lib.hid (Blk.below (Blk.drew ((Blk.new V 26 #[.int .u64 0, .int .u64 0, .int .u64 0, .int .u64 0]).alloc (.cells #[.int .u64 0, .int .u64 0, .int .u64 0, .int .u64 0] 26))) hb1 (by simp [World.drew]; omega)); have g1 := Lib.hid (show w.heap.size + 1 < V.heap.size from hsz); have f2 := Lib.hid (Blk.below (Blk.drew (Blk.new (V.alloc (.cells #[.int .u64 0, .int .u64 0, .int .u64 0, .int .u64 0] 26)) 26 #[.int .u64 0, .int .u64 0, .int .u64 0, .int .u64 0])) hb1 (by simp [World.drew])); have g2 := Lib.hid (show w.heap.size + 1 < V.heap.size + 1 from (by omega)); have hx := Lib.hid ((hbd2.out _ _).below hb1); have hne := Lib.hid (show V.heap.size ≠ V.heap.size + 1 from (by omega)); clear hb1))
          | (go_at_call 15; (with_reducible refine (K2.out _ ?_).mono ?_); (first | (with_reducible exact ((hx.out.alloc _).alloc _).bel) | (with_reducible exact (hx.out.alloc _).bel) | (with_reducible exact hx.out.bel)); rintro e w2 ⟨rfl, hb2⟩
             first
             | (have q1 := f1.out.below hb2 f1.out.lt; have q2 := f2.out.below hb2 f2.out.lt; have hy := hx.out.below hb2; have h1 := g1.out; have h2 := g2.out; have hn := hne.out; simp only [World.size_alloc] at q2; generalize V.heap.size + 1 = gy at *; have hn' := hn.symm; have FA := Lib.hid (two_known hy h1 h2 hn q1 q2 r0 r1 r2 r3 s0 s1 s2 s3); have FB := Lib.hid (two_known hy h2 h1 hn' q2 q1 r0 r1 r2 r3 s0 s1 s2 s3); obtain ⟨x0, x1, x2, x3⟩ := blk_cells q1; have xf := q1.frozen; have xl := q1.lt; obtain ⟨y0, y1, y2, y3⟩ := blk_cells q2; have yf := q2.frozen; have yl := q2.lt; clear hb2 q1 q2 hy)
             | (have l1 := f1.out.lt; have hxl := hx.out.lt; have q1 := (f1.out.alloc (.cells #[.int .u64 0, .int .u64 0, .int .u64 0, .int .u64 0] 26)).below hb2 (by simp; omega); have q2 := (Blk.new w1 26 #[.int .u64 0, .int .u64 0, .int .u64 0, .int .u64 0]).below hb2 (by simp); have hy := (hx.out.alloc (.cells #[.int .u64 0, .int .u64 0, .int .u64 0, .int .u64 0] 26)).below hb2; have hn := Nat.ne_of_lt l1; have hn' := hn.symm; have FA := Lib.hid (two_known hy g1.out hxl hn q1 q2 r0 r1 r2 r3 s0 s1 s2 s3); have FB := Lib.hid (two_known hy hxl g1.out hn' q2 q1 r0 r1 r2 r3 s0 s1 s2 s3); obtain ⟨x0, x1, x2, x3⟩ := blk_cells q1; have xf := q1.frozen; have xl := q1.lt; obtain ⟨y0, y1, y2, y3⟩ := blk_cells q2; have yf := q2.frozen; have yl := q2.lt; clear hb2 q1 q2 hy)
             | (have q1 := f1.out.below hb2 f1.out.lt; have hy := hx.out.below hb2; obtain ⟨FA, FB⟩ := one_known hy g1.out q1 r0 r1 r2 r3 s0 s1 s2 s3; have FA := Lib.hid FA; have FB := Lib.hid FB; obtain ⟨x0, x1, x2, x3⟩ := blk_cells q1; have xf := q1.frozen; have xl := q1.lt; clear hb2 q1 hy)
             | (have hxl := hx.out.lt; have q1 := ((Blk.new w1 26 #[.int .u64 0, .int .u64 0, .int .u64 0, .int .u64 0]).alloc (.cells #[.int .u64 0, .int .u64 0, .int .u64 0, .int .u64 0] 26)).below hb2 (by simp; omega); have q2 := (Blk.new (w1.alloc (.cells #[.int .u64 0, .int .u64 0, .int .u64 0, .int .u64 0] 26)) 26 #[.int .u64 0, .int .u64 0, .int .u64 0, .int .u64 0]).below hb2 (by simp); have hy := ((hx.out.alloc (.cells #[.int .u64 0, .int .u64 0, .int .u64 0, .int .u64 0] 26)).alloc (.cells #[.int .u64 0, .int .u64 0, .int .u64 0, .int .u64 0] 26)).below hb2; have hxl2 : w.heap.size + 1 < w1.heap.size + 1 := (by omega); have hn : w1.heap.size ≠ w1.heap.size + 1 := (by omega); simp only [World.size_alloc] at q2; generalize w1.heap.size + 1 = gy at *; have hn' := hn.symm; have FA := Lib.hid (two_known hy hxl hxl2 hn q1 q2 r0 r1 r2 r3 s0 s1 s2 s3); have FB := Lib.hid (two_known hy hxl2 hxl hn' q2 q1 r0 r1 r2 r3 s0 s1 s2 s3); obtain ⟨x0, x1, x2, x3⟩ := blk_cells q1; have xf := q1.frozen; have xl := q1.lt; obtain ⟨y0, y1, y2, y3⟩ := blk_cells q2; have yf := q2.frozen; have yl := q2.lt; clear hb2 q1 q2 hy)
             | (have hxl := hx.out.lt; have q1 := (Blk.new w1 26 #[.int .u64 0, .int .u64 0, .int .u64 0, .int .u64 0]).below hb2 (by simp); have hy := (hx.out.alloc (.cells #[.int .u64 0, .int .u64 0, .int .u64 0, .int .u64 0] 26)).below hb2; obtain ⟨FA, FB⟩ := one_known hy hxl q1 r0 r1 r2 r3 s0 s1 s2 s3; have FA := Lib.hid FA; have FB := Lib.hid FB; obtain ⟨x0, x1, x2, x3⟩ := blk_cells q1; have xf := q1.frozen; have xl := q1.lt; clear hb2 q1 hy)
             | (have hy := hx.out.below hb2; obtain ⟨FA, FB⟩ := none_known hy r0 r1 r2 r3 s0 s1 s2 s3; have FA := Lib.hid FA; have FB := Lib.hid FB; clear hb2 hy)))
      all_goals first
        | (obtain ⟨WF, g6, g7, h6, h7, hWF, m6, m7, HF⟩ := FA.out; rw [← hWF, ← h6, ← h7])
        | (obtain ⟨WF, g6, g7, h6, h7, hWF, m6, m7, HF⟩ := FB.out; rw [← hWF, ← h6, ← h7])
      all_goals
        clear hWF FA FB h6 h7
        have e61 : g6 ≠ w.heap.size := by omega
        have e62 : g6 ≠ w.heap.size + 1 := by omega
        have e71 : g7 ≠ w.heap.size := by omega
        have e72 : g7 ≠ w.heap.size + 1 := by omega
        have e61' := e61.symm
        have e62' := e62.symm
        have e71' := e71.symm
        have e72' := e72.symm
        try clear x0 x1 x2 x3 xf xl
        try clear y0 y1 y2 y3 yf yl
        have p6 := Lib.hid HF.1
        have p7 := Lib.hid HF.2.1
        have pz1 := Lib.hid HF.2.2.1
        have pz2 := Lib.hid HF.2.2.2.1
        have pb := Lib.hid HF.2.2.2.2
        have lz := HF.2.2.2.1.lt
        clear HF
        obtain ⟨x0, x1, x2, x3⟩ := blk_cells p6.out
        obtain ⟨y0, y1, y2, y3⟩ := blk_cells p7.out
        go_wp2_with fail
        refine (refEncode_any r0 r1 r2 r3 s0 s1 s2 s3 WF B1.out B2.out).mono ?_
        rintro e w5 ⟨v5, rfl, hv5, hb5⟩
        have pb5 := Lib.hid (pb.out.trans (hb5.mono pb.out.size))
        have hu5 := Lib.hid (HU.out.below pb5.out)
        have p6 := Lib.hid (p6.out.below hb5 p6.out.lt)
        have p7 := Lib.hid (p7.out.below hb5 p7.out.lt)
        have pz1 := Lib.hid (pz1.out.below hb5 pz1.out.lt)
        have pz2 := Lib.hid (pz2.out.below hb5 pz2.out.lt)
        clear hb5 pb x0 x1 x2 x3 y0 y1 y2 y3
        obtain ⟨E, hE⟩ : ∃ E, E = derE (leB [r0, r1, r2, r3]).reverse (leB [s0, s1, s2, s3]).reverse := ⟨_, rfl⟩
        have hEl : E.length ≤ 72 := by rw [hE]; exact (derE_len _ _ (by intro h; have := congrArg List.length h; simp [leB_length] at this) (by intro h; have := congrArg List.length h; simp [leB_length] at this) (by simp [leB_length]) (by simp [leB_length])).2
        rw [← hE] at hv5
        have HV5 := Lib.hid hv5
        clear hv5
        have hd2 := HD2.out
        rw [← hE] at hd2
        clear hE HD2
        have HD3 := Lib.hid hd2
        clear hd2
        go_wp2_with fail
        refine (refSame_any v5 _ E l w5 HV5.out.ri hu5.out (by omega) (by rw [← HN.out]; omega)).mono ?_
        rintro e w6 ⟨rfl, hb6⟩
        have pb6 := Lib.hid (pb5.out.trans (hb6.mono pb5.out.size))
        have p6 := Lib.hid (p6.out.below hb6 p6.out.lt)
        have p7 := Lib.hid (p7.out.below hb6 p7.out.lt)
        have pz1 := Lib.hid (pz1.out.below hb6 pz1.out.lt)
        have pz2 := Lib.hid (pz2.out.below hb6 pz2.out.lt)
        clear hb6 pb5 hu5 HV5 hEl
        obtain ⟨a0, a1, a2, a3⟩ := blk_cells pz1.out
        obtain ⟨b0, b1, b2, b3⟩ := blk_cells pz2.out
        have af := pz1.out.frozen
        have bf := pz2.out.frozen
        by_cases hE : E = l
        · obtain ⟨x0, x1, x2, x3⟩ := blk_cells p6.out
          obtain ⟨y0, y1, y2, y3⟩ := blk_cells p7.out
          have hdec : decide (E = l) = true := by simpa using hE
          have hD2 := HD3.out
          rw [if_pos hE] at hD2
          subst hD2
          simp only [hdec]
          clear hE hdec HD3
          go_wp2
          go_region
          go_wp2
          have F := fin_set pz1.out pz2.out pb6.out r0 r1 r2 r3 s0 s1 s2 s3
          exact bodyPost_ret (refDec_results rfl rfl rfl F.1.drew F.2.1.drew rfl rfl) rfl ⟨rfl, F.2.2.drew⟩
        · have hdec : decide (E = l) = false := by simpa using hE
          have hD2 := HD3.out
          rw [if_neg hE] at hD2
          subst hD2
          simp only [hdec]
          clear hE hdec HD3
          go_wp2
          have F := fin_set pz1.out pz2.out pb6.out 0 0 0 0 0 0 0 0
          exact bodyPost_ret (refDec_results rfl rfl rfl F.1 F.2.1 rfl rfl) rfl ⟨rfl, F.2.2⟩
end Go.Proofs.Yteicdkknciljhaa
