/- The walk of DerBack, second part. -/
import Derived.Test.YteicdkknciljhaaBack
namespace Go.Proofs.Yteicdkknciljhaa
open Go.RowKit Go.Chr

abbrev natA (a0 a1 a2 a3 : Int) : Array Value := #[.int .u64 a0, .int .u64 a1, .int .u64 a2, .int .u64 a3]
theorem blk_four {w : World} {g : Nat} {t : TypeId} {c0 c1 c2 c3 : Value} (h : Blk w g t #[c0, c1, c2, c3]) : w.cell? ⟨g, 0, none⟩ = some c0 ∧ w.cell? ⟨g, 1, none⟩ = some c1 ∧ w.cell? ⟨g, 2, none⟩ = some c2 ∧ w.cell? ⟨g, 3, none⟩ = some c3 := by
  refine ⟨?_, ?_, ?_, ?_⟩ <;> rw [h.cell] <;> rfl

theorem hne_leB (L : List Int) : (leB L).reverse ≠ [] := by
  intro h
  have := congrArg List.length h
  simp [leB_length] at this

theorem decB_any (a0 a1 a2 a3 b0 b1 b2 b3 : Int) (hA : ∀ x ∈ [a0, a1, a2, a3], 0 ≤ x ∧ x < 2 ^ 64) (hB : ∀ x ∈ [b0, b1, b2, b3], 0 ≤ x ∧ x < 2 ^ 64) :
    decB (derE (leB [a0, a1, a2, a3]).reverse (leB [b0, b1, b2, b3]).reverse) = some ([a0, a1, a2, a3], [b0, b1, b2, b3]) := by
  rw [decB_derE _ _ (by simp [leB_length]) (by simp [leB_length]) (fun x hx => leB_bd _ x (List.mem_reverse.1 hx)) (fun x hx => leB_bd _ x (List.mem_reverse.1 hx)), List.reverse_reverse, List.reverse_reverse, leN_leB _ _ _ _ hA, leN_leB _ _ _ _ hB]

set_option maxRecDepth 100000 in
set_option maxHeartbeats 4000000 in
theorem back_any (a0 a1 a2 a3 b0 b1 b2 b3 : Int) (u : Value) (l : List Int) (w : World) (hA : ∀ x ∈ [a0, a1, a2, a3], 0 ≤ x ∧ x < 2 ^ 64) (hB : ∀ x ∈ [b0, b1, b2, b3], 0 ≤ x ∧ x < 2 ^ 64)
    (hu : RI w .u8 u l) (hby : ∀ x ∈ l, 0 ≤ x ∧ x < 256) :
    Calls Try.prog 4 #[.agg #[.int .u64 a0, .int .u64 a1, .int .u64 a2, .int .u64 a3], .agg #[.int .u64 b0, .int .u64 b1, .int .u64 b2, .int .u64 b3], u] w (RetBool w true) := by
  have hEq := run_eql_nat
  go_enter Try.func4, Try.ntmps4
  obtain ⟨A, c, rfl, hc, hr⟩ := hu
  have hu : RI w .u8 (.slice A l.length c) l := ⟨A, c, rfl, hc, hr⟩
  obtain ⟨W0, hW0⟩ : ∃ W0, W0 = ((w.alloc (.cells #[.int .u64 a0, .int .u64 a1, .int .u64 a2, .int .u64 a3] 26)).alloc (.cells #[.int .u64 b0, .int .u64 b1, .int .u64 b2, .int .u64 b3] 26)) := ⟨_, rfl⟩
  have HA : Blk W0 w.heap.size 26 #[.int .u64 a0, .int .u64 a1, .int .u64 a2, .int .u64 a3] := by
    rw [hW0]; exact (Blk.new w _ _).alloc _
  have HB : Blk W0 (w.heap.size + 1) 26 #[.int .u64 b0, .int .u64 b1, .int .u64 b2, .int .u64 b3] := by
    have := (Blk.new (w.alloc (.cells #[.int .u64 a0, .int .u64 a1, .int .u64 a2, .int .u64 a3] 26)) 26 #[.int .u64 b0, .int .u64 b1, .int .u64 b2, .int .u64 b3])
    rw [hW0]; simpa using this
  have hbl : Below w.heap.size w W0 := by
    rw [hW0]; exact ((Below.refl _ _).alloc (Nat.le_refl _) _).alloc (by simp) _
  go_wp2_with fail
  rw [← hW0]
  refine (awake_any W0).mono ?_
  rintro e w1 ⟨rfl, hb1⟩
  have hb1' := hbl.trans (hb1.mono hbl.size)
  have hA1 := HA.below hb1 HA.lt
  have hB1 := HB.below hb1 HB.lt
  have hu1 := hu.below hb1'
  have HU1 := Lib.hid hu1
  have HA1 := Lib.hid hA1
  have HB1 := Lib.hid hB1
  clear hu hr hW0 HA HB hA1 hB1 hb1 hbl hu1
  by_cases c2 : 200 < l.length
  · have d2 : decide ((200 : Int) < l.length) = true := by simp; omega
    clear HU1 HA1 HB1 hA hB hEq
    go_wp2_with fail
    refine (awake_any w1).mono ?_
    rintro e w2 ⟨rfl, hb2⟩
    go_wp2
    exact ⟨rfl, .bool true, by simp [results, Try.results4], rfl, hb1'.trans (hb2.mono hb1'.size)⟩
  have d2 : decide ((200 : Int) < l.length) = false := by simp; omega
  have HL := Lib.hid (show ([] : List Int).length + l.length ≤ 140737488355328 by simp; omega)
  have HC := Lib.hid c2
  clear c2
  have HAb := Lib.hid hA
  have HBb := Lib.hid hB
  have HBY := Lib.hid hby
  clear hA hB hby
  go_wp2_with (at_builtin; go_loud (refine app_u8 (B := w1.heap.size) rfl (.tmp 22) (.tmp 23) rfl _ _ [] l rfl rfl (OI.nil _ _ _ _) HU1.out HL.out (Nat.le_refl _) ?_; intro v1 w2 hv1 hb2 _ _; have g := Lib.hid (blk_four (HA1.out.below hb2 HA1.out.lt)); have k := Lib.hid (blk_four (HB1.out.below hb2 HB1.out.lt)); have g0 := g.out.1; have g1 := g.out.2.1; have g2 := g.out.2.2.1; have g3 := g.out.2.2.2; have k0 := k.out.1; have k1 := k.out.2.1; have k2 := k.out.2.2.1; have k3 := k.out.2.2.2))
  refine (encode_any a0 a1 a2 a3 b0 b1 b2 b3 w2).mono ?_
  rintro e w3 ⟨v, rfl, hv, hb3⟩
  have hdec := decB_any a0 a1 a2 a3 b0 b1 b2 b3 HAb.out HBb.out
  obtain ⟨E, hE⟩ : ∃ E, E = derE (leB [a0, a1, a2, a3]).reverse (leB [b0, b1, b2, b3]).reverse := ⟨_, rfl⟩
  have hEb := derE_bd _ _ (hne_leB [a0, a1, a2, a3]) (hne_leB [b0, b1, b2, b3]) (by simp [leB_length]) (by simp [leB_length]) (fun x hx => leB_bd _ x (List.mem_reverse.1 hx)) (fun x hx => leB_bd _ x (List.mem_reverse.1 hx))
  obtain ⟨-, hEl⟩ := derE_len _ _ (hne_leB [a0, a1, a2, a3]) (hne_leB [b0, b1, b2, b3]) (by simp [leB_length]) (by simp [leB_length])
  rw [← hE] at hv hdec hEb hEl
  clear hE
  have HV1 := Lib.hid hv1; have HDEC := Lib.hid hdec; have HEB := Lib.hid hEb; have HEL := Lib.hid hEl
  clear hv1 hdec hEb hEl g0 g1 g2 g3 k0 k1 k2 k3 g k
  have hri := hv.ri
  clear hv
  go_wp2_with fail
  refine (decode_any _ E w3 hri (by have := HEL.out; omega) HEB.out).mono ?_
  rw [HDEC.out]
  rintro e w4 ⟨rfl, hb4⟩
  simp only [Option.getD_some, natV, List.map_cons, List.map_nil, Option.isSome_some]
  obtain ⟨W5, hW5⟩ : ∃ W5, W5 = ((w4.alloc (.cells #[.int .u64 a0, .int .u64 a1, .int .u64 a2, .int .u64 a3] 26)).alloc (.cells #[.int .u64 b0, .int .u64 b1, .int .u64 b2, .int .u64 b3] 26)) := ⟨_, rfl⟩
  have HR5 : Blk W5 w4.heap.size 26 #[.int .u64 a0, .int .u64 a1, .int .u64 a2, .int .u64 a3] := by
    rw [hW5]; exact (Blk.new w4 _ _).alloc _
  have HS5 : Blk W5 (w4.heap.size + 1) 26 #[.int .u64 b0, .int .u64 b1, .int .u64 b2, .int .u64 b3] := by
    have := (Blk.new (w4.alloc (.cells #[.int .u64 a0, .int .u64 a1, .int .u64 a2, .int .u64 a3] 26)) 26 #[.int .u64 b0, .int .u64 b1, .int .u64 b2, .int .u64 b3])
    rw [hW5]; simpa using this
  have hb45 : Below w4.heap.size w4 W5 := by
    rw [hW5]; exact ((Below.refl _ _).alloc (Nat.le_refl _) _).alloc (by simp) _
  have h25 : Below w2.heap.size w2 W5 := hb3.trans ((hb4.trans (hb45.mono hb4.size)).mono hb3.size)
  have h15 : Below w1.heap.size w1 W5 := hb2.trans (h25.mono hb2.size)
  have HU5 := Lib.hid (HU1.out.below h15)
  have HV5 := Lib.hid (HV1.out.below h25)
  have HA5 := Lib.hid (HA1.out.below h15 HA1.out.lt)
  have HB5 := Lib.hid (HB1.out.below h15 HB1.out.lt)
  have HR5 := Lib.hid HR5
  have HS5 := Lib.hid HS5
  have h05 := Lib.hid (hb1'.trans (h15.mono hb1'.size))
  have HL1 := Lib.hid (show l.length ≤ 200 by have := HC.out; omega)
  clear hb1' h15 h25 hb45 hb4 hb3 hb2 HU1 HV1 HA1 HB1 HEB HDEC HEL hri HAb HBb HC
  go_wp2_with fail
  rw [← hW5]
  clear hW5
  refine (decode_any _ l W5 HU5.out (by have := HL1.out; omega) HBY.out).mono ?_
  rintro e w6 ⟨rfl, hb6⟩
  have HA6 := Lib.hid (HA5.out.below hb6 HA5.out.lt)
  have HB6 := Lib.hid (HB5.out.below hb6 HB5.out.lt)
  have HR6 := Lib.hid (HR5.out.below hb6 HR5.out.lt)
  have HS6 := Lib.hid (HS5.out.below hb6 HS5.out.lt)
  have HU6 := Lib.hid (HU5.out.below hb6)
  have HV6 := Lib.hid (HV5.out.below hb6)
  have h06 := Lib.hid (h05.out.trans (hb6.mono h05.out.size))
  have l1 := HA6.out.lt
  have l2 := HB6.out.lt
  have l3 := HR6.out.lt
  have l4 := HS6.out.lt
  have q1 := blk_four HA6.out
  have q2 := blk_four HB6.out
  have q3 := blk_four HR6.out
  have q4 := blk_four HS6.out
  obtain ⟨a0', a1', a2', a3'⟩ := q1
  obtain ⟨b0', b1', b2', b3'⟩ := q2
  obtain ⟨r0', r1', r2', r3'⟩ := q3
  obtain ⟨s0', s1', s2', s3'⟩ := q4
  clear hb6 HA5 HB5 HR5 HS5 HU5 HV5 h05
  have hb67 : ∀ o1 o2, Below w6.heap.size w6 ((w6.alloc o1).alloc o2) := fun o1 o2 => ((Below.refl _ _).alloc (Nat.le_refl _) _).alloc (by simp) _
  have H67 := Lib.hid hb67
  clear hb67
  cases hD : decB l with
  | none =>
    simp only [Option.getD_none, natV, List.map_cons, List.map_nil, Option.isSome_none]
    clear hD
    go_wp2_with fail
    obtain ⟨W7, hW7⟩ : ∃ W7, W7 = ((w6.alloc (.cells #[.int .u64 0, .int .u64 0, .int .u64 0, .int .u64 0] 26)).alloc (.cells #[.int .u64 0, .int .u64 0, .int .u64 0, .int .u64 0] 26)) := ⟨_, rfl⟩
    have HX7 : Blk W7 w6.heap.size 26 #[.int .u64 0, .int .u64 0, .int .u64 0, .int .u64 0] := by
      rw [hW7]; exact (Blk.new w6 _ _).alloc _
    have HY7 : Blk W7 (w6.heap.size + 1) 26 #[.int .u64 0, .int .u64 0, .int .u64 0, .int .u64 0] := by
      have := (Blk.new (w6.alloc (.cells #[.int .u64 0, .int .u64 0, .int .u64 0, .int .u64 0] 26)) 26 #[.int .u64 0, .int .u64 0, .int .u64 0, .int .u64 0])
      rw [hW7]; simpa using this
    have h67 : Below w6.heap.size w6 W7 := by rw [hW7]; exact H67.out _ _
    rw [← hW7]
    clear hW7 H67
    refine (refSame_any v1 _ ([] ++ l) l W7 (HV6.out.below h67).ri (HU6.out.below h67) (by have := HL1.out; rw [List.nil_append]; omega) (by have := HL1.out; omega)).mono ?_
    rw [show decide ([] ++ l = l) = true by simp]
    rintro e w8 ⟨rfl, hb8⟩
    have HX8 := Lib.hid (HX7.below hb8 HX7.lt)
    have HY8 := Lib.hid (HY7.below hb8 HY7.lt)
    have h68 := h67.trans (hb8.mono h67.size)
    have h08 := Lib.hid (h06.out.trans (h68.mono h06.out.size))
    have HU8 := Lib.hid (HU6.out.below h68)
    obtain ⟨x0, x1, x2, x3⟩ := blk_four HX8.out
    obtain ⟨y0, y1, y2, y3⟩ := blk_four HY8.out
    clear HX7 HY7 h67 h68 hb8 HV6 HU6 h06 a0' a1' a2' a3' b0' b1' b2' b3' r0' r1' r2' r3' s0' s1' s2' s3' HA6 HB6 HR6 HS6 l1 l2 l3 l4
    go_wp2
    exact ⟨rfl, .bool true, by simp [results, Try.results4], rfl, h08.out⟩
  | some p =>
    obtain ⟨p, q⟩ := p
    obtain ⟨⟨p0, p1, p2, p3, rfl⟩, q0, q1, q2, q3, rfl⟩ := decB_limbs hD
    have hcan := Lib.hid (decB_canon HBY.out hD)
    simp only [Option.getD_some, natV, List.map_cons, List.map_nil, Option.isSome_some]
    clear hD
    go_wp2_with fail
    obtain ⟨W7, hW7⟩ : ∃ W7, W7 = ((w6.alloc (.cells #[.int .u64 p0, .int .u64 p1, .int .u64 p2, .int .u64 p3] 26)).alloc (.cells #[.int .u64 q0, .int .u64 q1, .int .u64 q2, .int .u64 q3] 26)) := ⟨_, rfl⟩
    have HX7 : Blk W7 w6.heap.size 26 #[.int .u64 p0, .int .u64 p1, .int .u64 p2, .int .u64 p3] := by
      rw [hW7]; exact (Blk.new w6 _ _).alloc _
    have HY7 : Blk W7 (w6.heap.size + 1) 26 #[.int .u64 q0, .int .u64 q1, .int .u64 q2, .int .u64 q3] := by
      have := (Blk.new (w6.alloc (.cells #[.int .u64 p0, .int .u64 p1, .int .u64 p2, .int .u64 p3] 26)) 26 #[.int .u64 q0, .int .u64 q1, .int .u64 q2, .int .u64 q3])
      rw [hW7]; simpa using this
    have h67 : Below w6.heap.size w6 W7 := by rw [hW7]; exact H67.out _ _
    rw [← hW7]
    clear hW7 H67
    refine (refSame_any v1 _ ([] ++ l) l W7 (HV6.out.below h67).ri (HU6.out.below h67) (by have := HL1.out; rw [List.nil_append]; omega) (by have := HL1.out; omega)).mono ?_
    rw [show decide ([] ++ l = l) = true by simp]
    rintro e w8 ⟨rfl, hb8⟩
    have HX8 := Lib.hid (HX7.below hb8 HX7.lt)
    have HY8 := Lib.hid (HY7.below hb8 HY7.lt)
    have h68 := h67.trans (hb8.mono h67.size)
    have h08 := Lib.hid (h06.out.trans (h68.mono h06.out.size))
    have HU8 := Lib.hid (HU6.out.below h68)
    obtain ⟨x0, x1, x2, x3⟩ := blk_four HX8.out
    obtain ⟨y0, y1, y2, y3⟩ := blk_four HY8.out
    clear HX7 HY7 h67 h68 hb8 HV6 HU6 h06 a0' a1' a2' a3' b0' b1' b2' b3' r0' r1' r2' r3' s0' s1' s2' s3' HA6 HB6 HR6 HS6 l1 l2 l3 l4
    go_wp2_with fail
    refine (encode_any p0 p1 p2 p3 q0 q1 q2 q3 w8).mono ?_
    rintro e w9 ⟨v9, rfl, hv9, hb9⟩
    rw [← hcan.out] at hv9
    have h09 := Lib.hid (h08.out.trans (hb9.mono h08.out.size))
    have HU9 := Lib.hid (HU8.out.below hb9)
    have HV9 := Lib.hid hv9
    clear h08 HU8 hb9 hv9 x0 x1 x2 x3 y0 y1 y2 y3 HX8 HY8 hcan
    go_wp2_with fail
    refine (refSame_any v9 _ l l w9 HV9.out.ri HU9.out (by have := HL1.out; omega) (by have := HL1.out; omega)).mono ?_
    rw [show decide (l = l) = true by simp]
    rintro e w10 ⟨rfl, hb10⟩
    have h10 := Lib.hid (h09.out.trans (hb10.mono h09.out.size))
    clear hb10 h09 HU9 HV9
    go_wp2
    exact ⟨rfl, .bool true, by simp [results, Try.results4], rfl, h10.out⟩
end Go.Proofs.Yteicdkknciljhaa
