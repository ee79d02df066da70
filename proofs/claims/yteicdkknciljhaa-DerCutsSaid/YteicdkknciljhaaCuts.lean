/- The walk of DerCuts. -/
import Derived.Test.YteicdkknciljhaaLaw10
namespace Go.Proofs.Yteicdkknciljhaa
open Go.RowKit Go.Chr

set_option maxRecDepth 100000 in
set_option maxHeartbeats 4000000 in
theorem cuts_any (a0 a1 a2 a3 b0 b1 b2 b3 y : Int) (u : Value) (l : List Int) (w : World) (hy0 : 0 ≤ y) (hy1 : y < 256) (hu : RI w .u8 u l) (hby : ∀ x ∈ l, 0 ≤ x ∧ x < 256) :
    Calls Try.prog 5 #[.agg #[.int .u64 a0, .int .u64 a1, .int .u64 a2, .int .u64 a3], .agg #[.int .u64 b0, .int .u64 b1, .int .u64 b2, .int .u64 b3], .agg #[.int .u8 y, u]] w (RetBool w true) := by
  go_enter Try.func5, Try.ntmps5
  obtain ⟨A, c, rfl, hc, hr⟩ := hu
  have hu : RI w .u8 (.slice A l.length c) l := ⟨A, c, rfl, hc, hr⟩
  obtain ⟨W0, hW0⟩ : ∃ W0, W0 = (((w.alloc (.cells #[.int .u64 a0, .int .u64 a1, .int .u64 a2, .int .u64 a3] 26)).alloc (.cells #[.int .u64 b0, .int .u64 b1, .int .u64 b2, .int .u64 b3] 26)).alloc (.cells #[.int .u8 y, .slice A l.length c] 34)).drew := ⟨_, rfl⟩
  have HA : Blk W0 w.heap.size 26 #[.int .u64 a0, .int .u64 a1, .int .u64 a2, .int .u64 a3] := by
    rw [hW0]; exact (((Blk.new w _ _).alloc _).alloc _).drew
  have HB : Blk W0 (w.heap.size + 1) 26 #[.int .u64 b0, .int .u64 b1, .int .u64 b2, .int .u64 b3] := by
    have := ((Blk.new (w.alloc (.cells #[.int .u64 a0, .int .u64 a1, .int .u64 a2, .int .u64 a3] 26)) 26 #[.int .u64 b0, .int .u64 b1, .int .u64 b2, .int .u64 b3]).alloc (.cells #[.int .u8 y, .slice A l.length c] 34)).drew
    rw [hW0]; simpa using this
  have hbl : Below w.heap.size w W0 := by
    rw [hW0]; exact ((((Below.refl _ _).alloc (Nat.le_refl _) _).alloc (by simp) _).alloc (by simp; omega) _).drew
  go_wp2
  go_region
  go_wp2_with fail
  rw [← hW0]
  refine (awake_any W0).mono ?_
  rintro e w1 ⟨rfl, hb1⟩
  have hb1' := hbl.trans (hb1.mono hbl.size)
  have ha1 := HA.below hb1 HA.lt
  have hB1 := HB.below hb1 HB.lt
  have hu1 := hu.below hb1'
  have g0 := ha1.cell 0
  have g1 := ha1.cell 1
  have g2 := ha1.cell 2
  have g3 := ha1.cell 3
  have k0 := hB1.cell 0
  have k1 := hB1.cell 1
  have k2 := hB1.cell 2
  have k3 := hB1.cell 3
  simp at g0 g1 g2 g3 k0 k1 k2 k3
  have HU1 := Lib.hid hu1
  clear hu hr hW0 HA HB ha1 hB1 hb1 hbl hu1
  by_cases c1 : l.length = 0
  · have d1 : ((l.length : Int) == 0) = true := beq_iff_eq.2 (by omega)
    clear HU1 g0 g1 g2 g3 k0 k1 k2 k3
    go_wp2_with fail
    refine (awake_any w1).mono ?_
    rintro e w2 ⟨rfl, hb2⟩
    go_wp2
    exact ⟨rfl, .bool true, by simp [results, Try.results5], rfl, hb1'.trans (hb2.mono hb1'.size)⟩
  have d1 : ((l.length : Int) == 0) = false := beq_eq_false_iff_ne.2 (by omega)
  by_cases c2 : 100 < l.length
  · have d2 : decide ((100 : Int) < l.length) = true := by simp; omega
    clear HU1 g0 g1 g2 g3 k0 k1 k2 k3
    go_wp2_with fail
    refine (awake_any w1).mono ?_
    rintro e w2 ⟨rfl, hb2⟩
    go_wp2
    exact ⟨rfl, .bool true, by simp [results, Try.results5], rfl, hb1'.trans (hb2.mono hb1'.size)⟩
  have d2 : decide ((100 : Int) < l.length) = false := by simp; omega
  obtain ⟨q, rfl⟩ : ∃ q : Nat, y = q := ⟨y.toNat, by omega⟩
  go_wp2_with fail
  refine (encode_any a0 a1 a2 a3 b0 b1 b2 b3 w1).mono ?_
  rintro e w2 ⟨v, rfl, hv, hb2⟩
  have hne : ∀ L, (leB L).reverse ≠ [] := by
    intro L h
    have := congrArg List.length h
    simp [leB_length] at this
  obtain ⟨hn1, hn2⟩ := derE_len _ _ (hne [a0, a1, a2, a3]) (hne [b0, b1, b2, b3]) (by simp [leB_length]) (by simp [leB_length])
  have hT := decB_take (leB [a0, a1, a2, a3]).reverse (leB [b0, b1, b2, b3]).reverse
  have hP := decB_app (leB [a0, a1, a2, a3]).reverse (leB [b0, b1, b2, b3]).reverse l (by intro h; rw [h] at c1; exact c1 rfl)
  obtain ⟨E, hE⟩ : ∃ E, E = derE (leB [a0, a1, a2, a3]).reverse (leB [b0, b1, b2, b3]).reverse := ⟨_, rfl⟩
  have hEb := derE_bd _ _ (hne [a0, a1, a2, a3]) (hne [b0, b1, b2, b3]) (by simp [leB_length]) (by simp [leB_length]) (fun x hx => leB_bd _ x (List.mem_reverse.1 hx)) (fun x hx => leB_bd _ x (List.mem_reverse.1 hx))
  rw [← hE] at hv hn1 hn2 hT hP hEb
  clear hE hne
  obtain ⟨n, hn⟩ : ∃ n, n = E.length := ⟨_, rfl⟩
  rw [← hn] at hn1 hn2 hT
  obtain ⟨g, cap, rfl, hgw, hcap⟩ := hv.form hn.symm (by omega)
  have hri : RI w2 .u8 (.slice (some ⟨g, 0, none⟩) n cap) E := hv.ri
  have hk := Nat.mod_lt q (show 0 < n by omega)
  obtain ⟨k, hk'⟩ : ∃ k, k = q % n := ⟨_, rfl⟩
  rw [← hk'] at hk
  have ht : Int.tmod (q : Int) (n : Int) = (k : Int) := by rw [hk']; rfl
  have hcut := hri.take (m := k) (by omega)
  have e1 : ((n : Int) == 0) = false := beq_eq_false_iff_ne.2 (by omega)
  have e2 : (k : Int) ≤ cap := by omega
  have e3 : (0 : Int) ≤ k := by omega
  have e4 : (n : Int) ≤ 72 := by omega
  have e5 : (8 : Int) ≤ n := by omega
  have HT := Lib.hid hT; have HP := Lib.hid hP; have HN := Lib.hid hn; have HV := Lib.hid hv; have HRI := Lib.hid hri; have HCUT := Lib.hid hcut; have HKK := Lib.hid hk'
  clear hT hP hn hv hri hcut hk' g0 g1 g2 g3 k0 k1 k2 k3
  have HEB := Lib.hid hEb
  have HBY := Lib.hid hby
  clear hEb hby
  go_wp2_with fail
  refine (decode_any _ (E.take k) w2 HCUT.out (by rw [List.length_take]; omega) (fun x hx => HEB.out x (List.mem_of_mem_take hx))).mono ?_
  rw [HT.out k hk]
  rintro e w3 ⟨rfl, hb3⟩
  simp only [Option.getD_none, natV, List.map_cons, List.map_nil, Option.isSome_none]
  have hB3 : Below w3.heap.size w3 (((w3.alloc (.cells #[.int .u64 0, .int .u64 0, .int .u64 0, .int .u64 0] 26)).alloc (.cells #[.int .u64 0, .int .u64 0, .int .u64 0, .int .u64 0] 26)).alloc (.cells #[] 5)) := (((Below.refl _ _).alloc (Nat.le_refl _) _).alloc (by simp) _).alloc (by simp; omega) _
  have HO : Hid (OI (((w3.alloc (.cells #[.int .u64 0, .int .u64 0, .int .u64 0, .int .u64 0] 26)).alloc (.cells #[.int .u64 0, .int .u64 0, .int .u64 0, .int .u64 0] 26)).alloc (.cells #[] 5)) w3.heap.size 5 .u8 (.slice (some ⟨w3.heap.size + 1 + 1, 0, none⟩) 0 0) []) := by
    have := OI.mk (B := w3.heap.size) (sp := []) (l := []) (k := .u8) (Blk.new ((w3.alloc (.cells #[.int .u64 0, .int .u64 0, .int .u64 0, .int .u64 0] 26)).alloc (.cells #[.int .u64 0, .int .u64 0, .int .u64 0, .int .u64 0] 26)) 5 #[]) (by simp; omega) rfl (by simp)
    exact Lib.hid (by simpa using this)
  have HR := Lib.hid ((HRI.out.below hb3).below hB3)
  have h13 : Below w1.heap.size w1 w3 := hb2.trans (hb3.mono hb2.size)
  have HU3 := Lib.hid (HU1.out.below h13)
  have HL1 := Lib.hid (show ([] : List Int).length + E.length ≤ 140737488355328 by rw [← HN.out]; simp; omega)
  have HL2 := Lib.hid (show ([] ++ E : List Int).length + l.length ≤ 140737488355328 by rw [List.nil_append, ← HN.out]; omega)
  have HB3 := Lib.hid hB3
  have HZ := Lib.hid (show w3.heap.size ≤ (((w3.alloc (.cells #[.int .u64 0, .int .u64 0, .int .u64 0, .int .u64 0] 26)).alloc (.cells #[.int .u64 0, .int .u64 0, .int .u64 0, .int .u64 0] 26)).alloc (.cells #[] 5)).heap.size by simp; omega)
  clear hB3 h13
  go_wp2_with (first | (at_builtin; refine app_u8 (B := w3.heap.size) rfl (.tmp 49) (.tmp 50) rfl _ _ [] E rfl rfl HO.out HR.out HL1.out HZ.out ?_; intro v1 w4 hv1 hb4 _ _; have HV1 := Lib.hid hv1; clear hv1; have HB4 := Lib.hid hb4; clear hb4) | (at_builtin; refine app_u8 (B := w3.heap.size) rfl (.tmp 51) (.tmp 52) rfl _ _ ([] ++ E) l rfl rfl HV1.out (HU3.out.below (HB3.out.trans HB4.out)) HL2.out (Nat.le_trans HZ.out HB4.out.size) ?_; intro v2 w5 hv2 hb5 _ _))
  refine (decode_any v2 ([] ++ E ++ l) w5 hv2.ri (by rw [List.nil_append, List.length_append, ← HN.out]; omega) (fun x hx => by rw [List.nil_append, List.mem_append] at hx; exact hx.elim (HEB.out x) (HBY.out x))).mono ?_
  rw [List.nil_append, HP.out]
  rintro e w6 ⟨rfl, hb6⟩
  simp only [Option.getD_none, natV, List.map_cons, List.map_nil, Option.isSome_none]
  have hend : Below w.heap.size w w6 := hb1'.trans ((hb2.trans ((hb3.trans ((((HB3.out.trans HB4.out).trans hb5).trans (hb6.mono (((HB3.out.trans HB4.out).trans hb5).size))).mono hb3.size)).mono hb2.size)).mono hb1'.size)
  have HE := Lib.hid hend
  clear hend hb1' hb2 hb3 hb5 hb6 hv2
  go_wp2
  exact ⟨rfl, .bool true, by simp [results, Try.results5], rfl, by
    have := HE.out.size
    exact ((HE.out.alloc (by omega) _).alloc (by simp; omega) _)⟩
end Go.Proofs.Yteicdkknciljhaa
