/- Contracts of the layer der: an integer of 33 bytes is read. -/
import Derived.Test.YteicdkknciljhaaYes
namespace Go.Proofs.Yteicdkknciljhaa
open Go.RowKit Go.Chr

theorem leN_app (a b : List Int) (h : 32 ≤ a.length) : leN (a ++ b) = leN a := by
  have e : ∀ k, k < 32 → (a ++ b).getD k 0 = a.getD k 0 := by
    intro k hk
    simp only [List.getD]
    rw [List.getElem?_append_left (by omega)]
  simp only [leN, leTo, limbTo, Nat.reduceMul, Nat.reduceSub, Nat.reduceLeDiff, Nat.min_eq_left, lt8]
  have e2 : ∀ i j, 8 * j + i < 32 → (a ++ b).getD (8 * j + i) 0 = a.getD (8 * j + i) 0 := fun i j h => e _ h
  simp (disch := omega) only [Nat.reduceMul, Nat.reduceAdd, e]

set_option maxRecDepth 100000 in
set_option maxHeartbeats 8000000 in
theorem integer_yes33 (g B m : Nat) (r : List Int) (w : World) (hB : B ≤ w.heap.size) (h : IsR w g B (2 :: (m : Int) :: r)) (hlen : r.length ≤ 1000000) (hby : ∀ x ∈ r, 0 ≤ x ∧ x < 256) (hm0 : m = 33) (hm3 : m ≤ r.length) (hok : ¬ badI (r.take m)) :
    Calls Try.prog 14 #[.pointer (some ⟨g, 0, none⟩)] w (RdYes g B (.agg ((natB (r.take m)).map (Value.int .u64)).toArray) (r.drop m) w) := by
  have HB := Lib.hid hok; clear hok
  have HLE := Lib.hid hB; clear hB
  have hm2 : m ≤ 33 := by omega
  have hm1 : 1 ≤ m := by omega
  have hm2' : m - 1 = 32 := by omega
  have hgl : g < w.heap.size := by obtain ⟨_, hx, _⟩ := h; exact hx.lt
  go_enter Try.func14, Try.ntmps14
  go_wp2_with fail
  refine (must_yes g B 2 (m :: r) _ (h.below ((Below.refl _ _).alloc (Nat.le_refl _) _)) (by simp; omega)).mono ?_
  rintro e w1 ⟨rfl, hr, hb⟩
  go_wp2_with fail
  refine (byte_yes g B m r w1 hr (by omega)).mono ?_
  rintro e w2 ⟨rfl, hr2, hb2⟩
  have hbut := ((But.of_below g ((Below.refl _ _).alloc (Nat.le_refl _) _)).trans hb).trans hb2
  obtain ⟨v, hblk, hri, hfar⟩ := hr2
  have hri' := hri
  obtain ⟨A, c, rfl, hc, -⟩ := hri
  have q1 := hblk.cell 0
  have q3 := hblk.frozen 0
  simp at q1
  have t1 := hri'.take (m := m) hm3
  have t2 := hri'.slice_ (i := m) (j := r.length) hm3 (Nat.le_refl _)
  obtain ⟨-, ad, x0, rfl, hx0, c0⟩ := t1.at_ (i := 0) (by simp; omega)
  have c0' : w2.cell? ad = some (.int .u8 x0) := c0
  have g0 : (r.take m).getD 0 0 = x0 := by simp [List.getD, hx0]
  have hadg : ad.block ≠ g := (hfar ad _ _ rfl).1
  have q5 : ∀ X, (w2.setCell ⟨g, 0, none⟩ X).cell? ad = some (.int .u8 x0) := fun X =>
    (World.cell?_setCell_other w2 ⟨g, 0, none⟩ ad X (fun e => hadg (congrArg Addr.block e).symm)).trans c0'
  have q6 : 1 < m → ∃ x1, (r.take m).getD 1 0 = x1 ∧ ∀ X, (w2.setCell ⟨g, 0, none⟩ X).cell? ⟨ad.block, ad.off + 1, none⟩ = some (.int .u8 x1) := by
    intro h1
    obtain ⟨-, ad', x1, e, hx1, c1⟩ := t1.at_ (i := 1) (by simp; omega)
    injection e with e
    subst e
    exact ⟨x1, by simp [List.getD, hx1], fun X => (World.cell?_setCell_other w2 ⟨g, 0, none⟩ ⟨ad.block, ad.off + 1, none⟩ X (fun e => hadg (congrArg Addr.block e).symm)).trans c1⟩
  have i1 : (m : Int) < 1 ↔ False := ⟨fun h => by omega, False.elim⟩
  have i2 : (33 : Int) < m ↔ False := ⟨fun h => by omega, False.elim⟩
  have i3 : (r.length : Int) < m ↔ False := ⟨fun h => by omega, False.elim⟩
  have i4 : (m : Int) ≤ r.length := by omega
  have i5 : (m : Int) ≤ c := by omega
  have i6 : (r.length : Int) ≤ c := by omega
  have i7 : (0 : Int) < m := by omega
  have hml : (r.take m).length = m := by simp; omega
  have HB2 := HB.out
  unfold badI at HB2
  rw [g0, hml] at HB2
  obtain ⟨x1, g1, q7⟩ := q6 (by omega)
  rw [g1] at HB2
  have x00 : x0 = 0 := by omega
  have d1 : decide ((128 : Int) ≤ x0) = false := by simp; omega
  have d2 : (x0 == 0) = true := by simpa using x00
  have d2' : (x0 != 0) = false := by simpa using x00
  have d3 : decide ((1 : Int) < m) = true := by simp; omega
  have d3' : (1 : Int) < m := by omega
  have d5 : decide (x1 < (128 : Int)) = false := by simp; omega
  have d6 : ((m : Int) == 33) = true := by simp; omega
  have d7 : (1 : Int) ≤ m := by omega
  have d8 : m ≠ 1 := by omega
  have d9 : c ≠ 1 := by omega
  have d10 : (1 : Int) ≤ c := by omega
  have d11 : ((m - 1 : Nat) : Int) = 32 := by omega
  have hmk : ∀ w, (Instr.makeSlice 22 (.int .i64 0) (.int .i64 0)).run Try.prog w = .ok (.slice (some ⟨w.heap.size, 0, none⟩) 0 0) (w.alloc (.cells #[] 5)) := fun w => mk_u8 0 (by omega) w
  have i9 : ¬ (r.length : Int) < 33 := by omega
  have i10 : (33 : Int) ≤ r.length := by omega
  have i11 : (33 : Int) ≤ c := by omega
  have i12 : decide ((r.length : Int) < 33) = false := by simp; omega
  obtain ⟨L, hL⟩ : ∃ L, L = (r.take m).drop 1 := ⟨_, rfl⟩
  have hLl : L.length = 32 := by rw [hL, List.length_drop, hml]; omega
  have hnat : natB (r.take m) = leN L.reverse := by
    have e : r.take m = x0 :: L := by
      rw [hL]
      cases hT : r.take m with
      | nil => rw [hT] at hml; simp at hml; omega
      | cons y ys => rw [hT] at hx0; simp at hx0; rw [hx0]; rfl
    unfold natB
    rw [hml, show 32 - m = 0 by omega, List.replicate_zero, List.nil_append, e, List.reverse_cons]
    exact leN_app _ _ (by simp [hLl])
  have hLb : ∀ x ∈ L, 0 ≤ x ∧ x < 256 := by
    intro x hx
    rw [hL] at hx
    exact hby x (List.mem_of_mem_take (List.mem_of_mem_drop hx))
  have hx : ∀ X d, 32 ≤ d → RI (w2.setCell ⟨g, 0, none⟩ X) .u8 (.slice (some ⟨ad.block, ad.off + 1, none⟩) 32 d) L := by
    intro X d hd
    obtain ⟨A1, c1, e, -, hrd⟩ := ri_but (g := g) t1 (fun A' n' c' e => by injection e with e; injection e with e; subst e; exact hadg) (gb_set (p := ⟨g, 0, none⟩) (World.grownBy.refl w2 _) rfl X)
    injection e with e1 e2 e3
    subst e1
    have y : RI (w2.setCell ⟨g, 0, none⟩ X) .u8 (.slice (some ad) m (d + 1)) (r.take m) := ⟨some ad, d + 1, by rw [hml], by rw [hml]; omega, hrd⟩
    have y2 := y.slice_ (i := 1) (j := m) (by omega) (Nat.le_refl _)
    rw [if_neg (by omega)] at y2
    have e2 : ((r.take m).drop 1).take (m - 1) = L := by rw [← hL]; exact List.take_of_length_le (by rw [hLl]; omega)
    rw [e2, hm2'] at y2
    exact y2
  have hsz : ∀ X, (w2.setCell ⟨g, 0, none⟩ X).heap.size = w2.heap.size := fun X => by simp [World.setCell]
  have KC : ∀ X d, 32 ≤ d → Calls Try.prog 19 #[.slice (some ⟨w2.heap.size + 1, 0, none⟩) 2 2] (((w2.setCell ⟨g, 0, none⟩ X).alloc (.cells #[] 5)).alloc (.cells #[.slice (some ⟨w2.heap.size, 0, none⟩) 0 0, .slice (some ⟨ad.block, ad.off + 1, none⟩) 32 d] 22))
      (RetB (((w2.setCell ⟨g, 0, none⟩ X).alloc (.cells #[] 5)).alloc (.cells #[.slice (some ⟨w2.heap.size, 0, none⟩) 0 0, .slice (some ⟨ad.block, ad.off + 1, none⟩) 32 d] 22)) L) := by
    intro X d hd
    have z := OI.of_ib (B := 0) (IB.zeros (w2.setCell ⟨g, 0, none⟩ X) 5 .u8 0) (Nat.zero_le _) (by simp [maxLen])
    rw [List.length_replicate, hsz] at z
    have y := (hx X d hd).below ((Below.refl _ _).alloc (Nat.le_refl _) (.cells #[] 5))
    have k := RR.two 22 z.ri y
    simp only [Array.replicate_zero, List.replicate_zero] at k
    have hsz2 : ((w2.setCell ⟨g, 0, none⟩ X).alloc (.cells #[] 5)).heap.size = w2.heap.size + 1 := by simp [World.setCell]
    rw [hsz2] at k
    have hfl : [([] : List Int), L].flatten = L := by simp
    have := concat_any _ _ _ k (by rw [hfl, hLl]; decide) (by simp)
    rw [hfl] at this
    exact this
  have hbut1 : But g (w.alloc (.cells #[.int .u64 0, .int .u64 0, .int .u64 0, .int .u64 0] 26)) w2 := hb.trans hb2
  have hbox : Blk w2 w.heap.size 26 #[.int .u64 0, .int .u64 0, .int .u64 0, .int .u64 0] := (Blk.new w 26 _).grown hbut1 (by simp; omega)
  have hR1 : c = m → IsR (w2.setCell ⟨g, 0, none⟩ (.slice (some ad) (r.length - m) 0)) g B (r.drop m) := by
    intro e
    rw [if_pos e] at t2
    have e2 : (r.drop m).take (r.length - m) = r.drop m := List.take_of_length_le (by simp)
    have e3 : c - m = 0 := by omega
    rw [e2, e3] at t2
    exact ⟨_, hblk.set_ 0 _, ri_but (g := g) t2 (fun A' n' c' e => by injection e with e; injection e with e; subst e; exact hadg) (gb_set (p := ⟨g, 0, none⟩) (World.grownBy.refl w2 _) rfl _),
      fun A' n' c' e => by injection e with e; injection e with e; subst e; exact hfar ad _ _ rfl⟩
  have hR2 : c ≠ m → IsR (w2.setCell ⟨g, 0, none⟩ (.slice (some (ad.add m)) (r.length - m) (c - m))) g B (r.drop m) := by
    intro e
    rw [if_neg e] at t2
    have e2 : (r.drop m).take (r.length - m) = r.drop m := List.take_of_length_le (by simp)
    rw [e2] at t2
    exact ⟨_, hblk.set_ 0 _, ri_but (g := g) t2 (fun A' n' c' e => by injection e with e; injection e with e; subst e; exact (fun h => hadg ((block_of_add ad m).symm.trans h))) (gb_set (p := ⟨g, 0, none⟩) (World.grownBy.refl w2 _) rfl _),
      fun A' n' c' e => by injection e with e; injection e with e; subst e; have := hfar ad _ _ rfl; rw [← block_of_add ad m] at this; exact this⟩
  have hw2 : w.heap.size < w2.heap.size := hbox.lt
  have HKC := Lib.hid KC; have HBUT := Lib.hid hbut; have HBOX := Lib.hid hbox; have HR1 := Lib.hid hR1; have HR2 := Lib.hid hR2; have HNAT := Lib.hid hnat; have HLL := Lib.hid hLl; have HLB := Lib.hid hLb; have HSZ := Lib.hid hsz; have HGL := Lib.hid hgl; have HW2 := Lib.hid hw2
  clear t1 t2 hr hri' hb hb2 hbut hblk hfar hx0 g0 c0 q6 HB2 g1 hx KC hbox hR1 hR2 hnat hLl hLb hL hsz hbut1 hml hgl hw2 hby
  subst hm0 x00
  go_wp2_with fail
  all_goals
    refine (HKC.out _ _ ?_).mono ?_
    · omega
    rintro e w3 ⟨v3, rfl, hv3, hb3⟩
    go_wp2_with fail
    refine (big_any v3 _ w3 hv3.ri HLB.out HLL.out).mono ?_
    rintro e w4 ⟨rfl, hb4⟩
    obtain ⟨y0, y1, y2, y3, hy⟩ : ∃ y0 y1 y2 y3, leN L.reverse = [y0, y1, y2, y3] := ⟨_, _, _, _, rfl⟩
    rw [hy]
    simp only [List.map_cons, List.map_nil]
    have hb5 := hb3.trans (hb4.mono hb3.size)
    have hb6 := (((Below.refl _ _).alloc (Nat.le_refl _) _).alloc (by simp) _).trans (hb5.mono (by simp; omega))
    have hisr := (show IsR _ g B (r.drop 33) by first | exact HR1.out (by assumption) | exact HR2.out (by assumption)).below hb6
    have hbx := (HBOX.out.far (p := ⟨g, 0, none⟩) (by simp; have := HGL.out; omega) _).below hb6 (by rw [HSZ.out]; exact HW2.out)
    have hbb := gb_below (gb_set (p := ⟨g, 0, none⟩) HBUT.out rfl _) hb6
    have hlt4 : w.heap.size < w4.heap.size := hbx.lt
    have n4 : w.heap.size ≠ w4.heap.size := Nat.ne_of_lt hlt4
    have n4' : w4.heap.size ≠ w.heap.size := fun h => n4 h.symm
    have r2 := fun o => (hbx.alloc o).cell
    have r3 := fun o => (hbx.alloc o).frozen
    have HY := Lib.hid hy; clear hy
    have HBX := Lib.hid hbx; clear hbx
    have HISR := Lib.hid hisr; clear hisr
    have HBB := Lib.hid hbb; clear hbb
    clear hb3 hb4 hb5 hb6 hv3
    clear hlen hm1 hm2' hm3 HB hm2 hadg q5 i1 i2 i3 i4 i5 i6 i7 d1 d2 d2' d3 d3' d5 d6 d7 d8 d9 d10 d11 i9 i10 i11 i12 hmk hlt4 HKC HBOX HR1 HR2 HLL HLB HSZ HW2

    go_wp2
    have hfin0 := HBX.out.alloc (.cells #[.int .u64 y0, .int .u64 y1, .int .u64 y2, .int .u64 y3] 26)
    have hfin := (((hfin0.set_ 0 (.int .u64 y0)).set_ 1 (.int .u64 y1)).set_ 2 (.int .u64 y2)).set_ 3 (.int .u64 y3)
    refine bodyPost_ret (results_blk (d := .array 4 24) Try.results14 rfl hfin rfl Try.underlying26 (by kernel_rfl)) rfl ⟨by rw [HNAT.out, HY.out]; rfl, ?_⟩
    refine ⟨HISR.out.but HLE.out (Nat.ne_of_lt HGL.out) ?_, But.new (q := w.heap.size) HBB.out ?_ (Nat.le_refl _)⟩ <;>
    exact gb_set (p := ⟨w.heap.size, 3, none⟩) (gb_set (p := ⟨w.heap.size, 2, none⟩) (gb_set (p := ⟨w.heap.size, 1, none⟩) (gb_set (p := ⟨w.heap.size, 0, none⟩) (gb_alloc (World.grownBy.refl _ _) _) rfl _) rfl _) rfl _) rfl _
end Go.Proofs.Yteicdkknciljhaa
