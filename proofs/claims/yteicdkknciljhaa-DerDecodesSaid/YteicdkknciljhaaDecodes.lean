/- The walk of DerDecodes. -/
import Derived.Test.YteicdkknciljhaaRef10d
namespace Go.Proofs.Yteicdkknciljhaa
open Go.RowKit Go.Chr

theorem decB_parts (l : List Int) : ∃ a0 a1 a2 a3 b0 b1 b2 b3 : Int, ∃ t : Bool, (decB l).getD (z4, z4) = ([a0, a1, a2, a3], [b0, b1, b2, b3]) ∧ (decB l).isSome = t := by
  cases h : decB l with
  | none => exact ⟨0, 0, 0, 0, 0, 0, 0, 0, false, rfl, rfl⟩
  | some p =>
    obtain ⟨a, b⟩ := p
    obtain ⟨⟨a0, a1, a2, a3, rfl⟩, b0, b1, b2, b3, rfl⟩ := decB_limbs h
    exact ⟨a0, a1, a2, a3, b0, b1, b2, b3, true, rfl, rfl⟩

set_option maxRecDepth 100000 in
set_option maxHeartbeats 4000000 in
theorem decodes_any (u : Value) (l : List Int) (w : World) (hu : RI w .u8 u l) (hby : ∀ x ∈ l, 0 ≤ x ∧ x < 256) :
    Calls Try.prog 3 #[u] w (RetBool w true) := by
  have hEq := run_eql_nat
  go_enter Try.func3, Try.ntmps3
  obtain ⟨A, c, rfl, hc, hr⟩ := hu
  have hu : RI w .u8 (.slice A l.length c) l := ⟨A, c, rfl, hc, hr⟩
  go_wp2_with fail
  refine (awake_any w).mono ?_
  rintro e w1 ⟨rfl, hb1⟩
  have HU1 := Lib.hid (hu.below hb1)
  clear hu hr
  by_cases c2 : 200 < l.length
  · have d2 : decide ((200 : Int) < l.length) = true := by simp; omega
    clear HU1 hEq
    go_wp2_with fail
    refine (awake_any w1).mono ?_
    rintro e w2 ⟨rfl, hb2⟩
    go_wp2
    exact ⟨rfl, .bool true, by simp [results, Try.results3], rfl, hb1.trans (hb2.mono hb1.size)⟩
  have d2 : decide ((200 : Int) < l.length) = false := by simp; omega
  have HC := Lib.hid c2
  have HBY := Lib.hid hby
  clear c2 hby
  go_wp2_with fail
  refine (decode_any _ l w1 HU1.out (by have := HC.out; omega) HBY.out).mono ?_
  rintro e w2 ⟨rfl, hb2⟩
  obtain ⟨a0, a1, a2, a3, b0, b1, b2, b3, t, hp, ht⟩ := decB_parts l
  have hcalls := fun W (hB : Below w1.heap.size w1 W) => refDecode_any _ l W (HU1.out.below hB) (by have := HC.out; omega) HBY.out
  simp only [refDec_eq l HBY.out] at hcalls
  simp only [hp, ht, natV, List.map_cons, List.map_nil]
  have HCA := Lib.hid hcalls
  have h2 := Lib.hid (hb1.trans (hb2.mono hb1.size))
  have HP := Lib.hid hp; have HT := Lib.hid ht
  clear hcalls hp ht
  obtain ⟨W3, hW3⟩ : ∃ W3, W3 = ((w2.alloc (.cells #[.int .u64 a0, .int .u64 a1, .int .u64 a2, .int .u64 a3] 26)).alloc (.cells #[.int .u64 b0, .int .u64 b1, .int .u64 b2, .int .u64 b3] 26)) := ⟨_, rfl⟩
  have hR : Blk W3 w2.heap.size 26 #[.int .u64 a0, .int .u64 a1, .int .u64 a2, .int .u64 a3] := by
    rw [hW3]; exact (Blk.new w2 _ _).alloc _
  have hS : Blk W3 (w2.heap.size + 1) 26 #[.int .u64 b0, .int .u64 b1, .int .u64 b2, .int .u64 b3] := by
    have := (Blk.new (w2.alloc (.cells #[.int .u64 a0, .int .u64 a1, .int .u64 a2, .int .u64 a3] 26)) 26 #[.int .u64 b0, .int .u64 b1, .int .u64 b2, .int .u64 b3])
    rw [hW3]; simpa using this
  have h23 : Below w2.heap.size w2 W3 := by
    rw [hW3]; exact ((Below.refl _ _).alloc (Nat.le_refl _) _).alloc (by simp) _
  have h13 := Lib.hid (hb2.trans (h23.mono hb2.size))
  have h3 := Lib.hid (h2.out.trans (h23.mono h2.out.size))
  have HR := Lib.hid hR
  have HS := Lib.hid hS
  clear hR hS hb1 hb2 h23 h2
  go_wp2_with fail
  rw [← hW3]
  clear hW3
  refine (HCA.out W3 h13.out).mono ?_
  rintro e w4 ⟨rfl, hb4⟩
  simp only [HP.out, HT.out, natV, List.map_cons, List.map_nil]
  have hR4 := Lib.hid (HR.out.below hb4 HR.out.lt)
  have hS4 := Lib.hid (HS.out.below hb4 HS.out.lt)
  have h4 := Lib.hid (h3.out.trans (hb4.mono h3.out.size))
  have l1 := hR4.out.lt
  have l2 := hS4.out.lt
  clear hb4 HR HS HCA h13 h3 HU1
  obtain ⟨x0, x1, x2, x3⟩ := blk_cells hR4.out
  obtain ⟨y0, y1, y2, y3⟩ := blk_cells hS4.out
  have tt : (t == t) = true := by cases t <;> rfl
  go_wp2
  exact ⟨rfl, .bool true, by simp [results, Try.results3], rfl, (h4.out.alloc h4.out.size _).alloc (by have := h4.out.size; simp; omega) _⟩
end Go.Proofs.Yteicdkknciljhaa
