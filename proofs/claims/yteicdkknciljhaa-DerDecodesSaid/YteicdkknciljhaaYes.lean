/- Contracts of the layer der: an integer is read. -/
import Derived.Test.YteicdkknciljhaaRead
namespace Go.Proofs.Yteicdkknciljhaa
open Go.RowKit Go.Chr

set_option maxRecDepth 100000 in
set_option maxHeartbeats 8000000 in
theorem integer_yes32 (g B m : Nat) (r : List Int) (w : World) (hB : B ≤ w.heap.size) (h : IsR w g B (2 :: (m : Int) :: r)) (hlen : r.length ≤ 1000000) (hby : ∀ x ∈ r, 0 ≤ x ∧ x < 256) (hm1 : 1 ≤ m) (hm2' : m ≤ 32) (hm3 : m ≤ r.length) (hok : ¬ badI (r.take m)) :
    Calls Try.prog 14 #[.pointer (some ⟨g, 0, none⟩)] w (RdYes g B (.agg ((natB (r.take m)).map (Value.int .u64)).toArray) (r.drop m) w) := by
  have HB := Lib.hid hok; clear hok
  have HLE := Lib.hid hB; clear hB
  have hm2 : m ≤ 33 := by omega
  have hgl : g < w.heap.size := by obtain ⟨_, hx, _⟩ := h; exact hx.lt
  go_enter Try.func14, Try.ntmps14
  go_wp2_with fail
  refine (must_yes g B 2 (m :: r) _ (h.below ((Below.refl _ _).alloc (Nat.le_refl _) _)) (by simp; omega)).mono ?_
  rintro e w1 ⟨rfl, hr, hb⟩
  go_wp2_with fail
  refine (byte_yes g B m r w1 hr (by omega)).mono ?_
  rintro e w2 ⟨rfl, hr2, hb2⟩
  have hbut := ((But.of_below g ((Below.refl _ _).alloc (Nat.le_refl _) _)).trans hb).trans hb2
  obtain ⟨v, hblk, hri, hfar⟩ := hr2
  have hri' := hri
  obtain ⟨A, c, rfl, hc, -⟩ := hri
  have q1 := hblk.cell 0
  have q3 := hblk.frozen 0
  simp at q1
  have t1 := hri'.take (m := m) hm3
  have t2 := hri'.slice_ (i := m) (j := r.length) hm3 (Nat.le_refl _)
  obtain ⟨-, ad, x0, rfl, hx0, c0⟩ := t1.at_ (i := 0) (by simp; omega)
  have c0' : w2.cell? ad = some (.int .u8 x0) := c0
  have g0 : (r.take m).getD 0 0 = x0 := by simp [List.getD, hx0]
  have hadg : ad.block ≠ g := (hfar ad _ _ rfl).1
  have q5 : ∀ X, (w2.setCell ⟨g, 0, none⟩ X).cell? ad = some (.int .u8 x0) := fun X =>
    (World.cell?_setCell_other w2 ⟨g, 0, none⟩ ad X (fun e => hadg (congrArg Addr.block e).symm)).trans c0'
  have q6 : 1 < m → ∃ x1, (r.take m).getD 1 0 = x1 ∧ ∀ X, (w2.setCell ⟨g, 0, none⟩ X).cell? ⟨ad.block, ad.off + 1, none⟩ = some (.int .u8 x1) := by
    intro h1
    obtain ⟨-, ad', x1, e, hx1, c1⟩ := t1.at_ (i := 1) (by simp; omega)
    injection e with e
    subst e
    exact ⟨x1, by simp [List.getD, hx1], fun X => (World.cell?_setCell_other w2 ⟨g, 0, none⟩ ⟨ad.block, ad.off + 1, none⟩ X (fun e => hadg (congrArg Addr.block e).symm)).trans c1⟩
  have i1 : (m : Int) < 1 ↔ False := ⟨fun h => by omega, False.elim⟩
  have i2 : (33 : Int) < m ↔ False := ⟨fun h => by omega, False.elim⟩
  have i3 : (r.length : Int) < m ↔ False := ⟨fun h => by omega, False.elim⟩
  have i4 : (m : Int) ≤ r.length := by omega
  have i5 : (m : Int) ≤ c := by omega
  have i6 : (r.length : Int) ≤ c := by omega
  have i7 : (0 : Int) < m := by omega
  have hml : (r.take m).length = m := by simp; omega
  have HB2 := HB.out
  unfold badI at HB2
  rw [g0, hml] at HB2
  have htests : decide ((1 : Int) < m) = false ∨ (x0 == 0) = false ∨ (decide ((1 : Int) < m) = true ∧ (1 : Int) < m ∧ (x0 == 0) = true ∧ ∃ x1, (∀ X, (w2.setCell ⟨g, 0, none⟩ X).cell? ⟨ad.block, ad.off + 1, none⟩ = some (.int .u8 x1)) ∧ decide (x1 < (128 : Int)) = false) := by
    by_cases h1 : 1 < m
    · by_cases h2 : x0 = 0
      · obtain ⟨x1, g1, q7⟩ := q6 h1
        rw [g1] at HB2
        refine .inr (.inr ⟨by simp; omega, by omega, by simpa using h2, x1, q7, ?_⟩)
        simp; omega
      · exact .inr (.inl (by simpa using h2))
    · exact .inl (by simp; omega)
  have d1 : decide ((128 : Int) ≤ x0) = false := by simp; omega
  have d6 : ((m : Int) == 33) = false := by simp; omega
  have hmk := mk_u8 (32 - m) (by omega)
  rw [show ((32 - m : Nat) : Int) = 32 - (m : Int) by omega] at hmk
  obtain ⟨L, hL⟩ : ∃ L, L = List.replicate (32 - m) (0 : Int) ++ r.take m := ⟨_, rfl⟩
  have hnat : natB (r.take m) = leN L.reverse := by unfold natB; rw [hml, hL]
  have hLl : L.length = 32 := by rw [hL, List.length_append, hml, List.length_replicate]; omega
  have hLb : ∀ x ∈ L, 0 ≤ x ∧ x < 256 := by
    intro x hx
    rw [hL, List.mem_append] at hx
    rcases hx with hx | hx
    · have := List.eq_of_mem_replicate hx; omega
    · exact hby x (List.mem_of_mem_take hx)
  have hx : ∀ X c', m ≤ c' → RI (w2.setCell ⟨g, 0, none⟩ X) .u8 (.slice (some ad) m c') (r.take m) := by
    intro X c' hc'
    obtain ⟨A1, c1, e, -, hrd⟩ := ri_but (g := g) t1 (fun A' n' c' e => by injection e with e; injection e with e; subst e; exact hadg) (gb_set (p := ⟨g, 0, none⟩) (World.grownBy.refl w2 _) rfl X)
    injection e with e1 e2 e3
    subst e1
    exact ⟨some ad, c', by rw [hml], by rw [hml]; exact hc', hrd⟩
  have hsz : ∀ X, (w2.setCell ⟨g, 0, none⟩ X).heap.size = w2.heap.size := fun X => by simp [World.setCell]
  have KC : ∀ X c', m ≤ c' → Calls Try.prog 19 #[.slice (some ⟨w2.heap.size + 1, 0, none⟩) 2 2] (((w2.setCell ⟨g, 0, none⟩ X).alloc (.cells (Array.replicate (32 - m) (.int .u8 0)) 5)).alloc (.cells #[.slice (some ⟨w2.heap.size, 0, none⟩) (32 - m) (32 - m), .slice (some ad) m c'] 22))
      (RetB (((w2.setCell ⟨g, 0, none⟩ X).alloc (.cells (Array.replicate (32 - m) (.int .u8 0)) 5)).alloc (.cells #[.slice (some ⟨w2.heap.size, 0, none⟩) (32 - m) (32 - m), .slice (some ad) m c'] 22)) L) := by
    intro X c' hc'
    have z := OI.of_ib (B := 0) (IB.zeros (w2.setCell ⟨g, 0, none⟩ X) 5 .u8 (32 - m)) (Nat.zero_le _) (by simp [maxLen]; omega)
    rw [List.length_replicate, hsz] at z
    have y := (hx X c' hc').below ((Below.refl _ _).alloc (Nat.le_refl _) (.cells (Array.replicate (32 - m) (.int .u8 0)) 5))
    have k := RR.two 22 z.ri y
    have hsz2 : ((w2.setCell ⟨g, 0, none⟩ X).alloc (.cells (Array.replicate (32 - m) (.int .u8 0)) 5)).heap.size = w2.heap.size + 1 := by simp [World.setCell]
    rw [hsz2] at k
    have hfl : [List.replicate (32 - m) (0 : Int), r.take m].flatten = L := by rw [hL]; simp
    have := concat_any _ _ _ k (by rw [hfl, hLl]; omega) (by simp)
    rw [hfl] at this
    exact this
  have hbut1 : But g (w.alloc (.cells #[.int .u64 0, .int .u64 0, .int .u64 0, .int .u64 0] 26)) w2 := hb.trans hb2
  have hbox : Blk w2 w.heap.size 26 #[.int .u64 0, .int .u64 0, .int .u64 0, .int .u64 0] := (Blk.new w 26 _).grown hbut1 (by simp; omega)
  have hR1 : c = m → IsR (w2.setCell ⟨g, 0, none⟩ (.slice (some ad) (r.length - m) 0)) g B (r.drop m) := by
    intro e
    rw [if_pos e] at t2
    have e2 : (r.drop m).take (r.length - m) = r.drop m := List.take_of_length_le (by simp)
    have e3 : c - m = 0 := by omega
    rw [e2, e3] at t2
    exact ⟨_, hblk.set_ 0 _, ri_but (g := g) t2 (fun A' n' c' e => by injection e with e; injection e with e; subst e; exact hadg) (gb_set (p := ⟨g, 0, none⟩) (World.grownBy.refl w2 _) rfl _),
      fun A' n' c' e => by injection e with e; injection e with e; subst e; exact hfar ad _ _ rfl⟩
  have hR2 : c ≠ m → IsR (w2.setCell ⟨g, 0, none⟩ (.slice (some (ad.add m)) (r.length - m) (c - m))) g B (r.drop m) := by
    intro e
    rw [if_neg e] at t2
    have e2 : (r.drop m).take (r.length - m) = r.drop m := List.take_of_length_le (by simp)
    rw [e2] at t2
    exact ⟨_, hblk.set_ 0 _, ri_but (g := g) t2 (fun A' n' c' e => by injection e with e; injection e with e; subst e; exact (fun h => hadg ((block_of_add ad m).symm.trans h))) (gb_set (p := ⟨g, 0, none⟩) (World.grownBy.refl w2 _) rfl _),
      fun A' n' c' e => by injection e with e; injection e with e; subst e; have := hfar ad _ _ rfl; rw [← block_of_add ad m] at this; exact this⟩
  have hw2 : w.heap.size < w2.heap.size := hbox.lt
  have HKC := Lib.hid KC; have HBUT := Lib.hid hbut; have HBOX := Lib.hid hbox; have HR1 := Lib.hid hR1; have HR2 := Lib.hid hR2; have HNAT := Lib.hid hnat; have HLL := Lib.hid hLl; have HLB := Lib.hid hLb; have HSZ := Lib.hid hsz; have HGL := Lib.hid hgl; have HW2 := Lib.hid hw2
  clear t1 t2 hr hri' hb hb2 hbut hblk hfar hx0 g0 c0 q6 HB2 hx KC hbox hR1 hR2 hnat hLl hLb hL hsz hbut1 hml hgl hw2 hby
  rcases htests with d3 | d2 | ⟨d3, d3', d2, x1, q7, d5⟩
  all_goals go_wp2_with fail
  all_goals
    refine (HKC.out _ _ ?_).mono ?_
    · omega
    rintro e w3 ⟨v3, rfl, hv3, hb3⟩
    go_wp2_with fail
    refine (big_any v3 _ w3 hv3.ri HLB.out HLL.out).mono ?_
    rintro e w4 ⟨rfl, hb4⟩
    obtain ⟨y0, y1, y2, y3, hy⟩ : ∃ y0 y1 y2 y3, leN L.reverse = [y0, y1, y2, y3] := ⟨_, _, _, _, rfl⟩
    rw [hy]
    simp only [List.map_cons, List.map_nil]
    have hb5 := hb3.trans (hb4.mono hb3.size)
    have hb6 := (((Below.refl _ _).alloc (Nat.le_refl _) _).alloc (by simp) _).trans (hb5.mono (by simp; omega))
    have hisr := (show IsR _ g B (r.drop m) by first | exact HR1.out (by assumption) | exact HR2.out (by assumption)).below hb6
    have hbx := (HBOX.out.far (p := ⟨g, 0, none⟩) (by simp; have := HGL.out; omega) _).below hb6 (by rw [HSZ.out]; exact HW2.out)
    have hbb := gb_below (gb_set (p := ⟨g, 0, none⟩) HBUT.out rfl _) hb6
    have hlt4 : w.heap.size < w4.heap.size := hbx.lt
    have n4 : w.heap.size ≠ w4.heap.size := Nat.ne_of_lt hlt4
    have n4' : w4.heap.size ≠ w.heap.size := fun h => n4 h.symm
    have r2 := fun o => (hbx.alloc o).cell
    have r3 := fun o => (hbx.alloc o).frozen
    have HY := Lib.hid hy; clear hy
    have HBX := Lib.hid hbx; clear hbx
    have HISR := Lib.hid hisr; clear hisr
    have HBB := Lib.hid hbb; clear hbb
    clear hb3 hb4 hb5 hb6 hv3
    clear hlen hm1 hm2' hm3 HB hm2 hadg q5 i1 i2 i3 i4 i5 i6 i7 d1 d6 hmk hlt4 HKC HBOX HR1 HR2 HLL HLB HSZ HW2

    go_wp2
    have hfin0 := HBX.out.alloc (.cells #[.int .u64 y0, .int .u64 y1, .int .u64 y2, .int .u64 y3] 26)
    have hfin := (((hfin0.set_ 0 (.int .u64 y0)).set_ 1 (.int .u64 y1)).set_ 2 (.int .u64 y2)).set_ 3 (.int .u64 y3)
    refine bodyPost_ret (results_blk (d := .array 4 24) Try.results14 rfl hfin rfl Try.underlying26 (by kernel_rfl)) rfl ⟨by rw [HNAT.out, HY.out]; rfl, ?_⟩
    refine ⟨HISR.out.but HLE.out (Nat.ne_of_lt HGL.out) ?_, But.new (q := w.heap.size) HBB.out ?_ (Nat.le_refl _)⟩ <;>
    exact gb_set (p := ⟨w.heap.size, 3, none⟩) (gb_set (p := ⟨w.heap.size, 2, none⟩) (gb_set (p := ⟨w.heap.size, 1, none⟩) (gb_set (p := ⟨w.heap.size, 0, none⟩) (gb_alloc (World.grownBy.refl _ _) _) rfl _) rfl _) rfl _) rfl _
end Go.Proofs.Yteicdkknciljhaa
