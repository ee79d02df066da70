/- Contracts of the reference's layer 10: Encode, number. -/
import Derived.Test.YteicdkknciljhaaRef10
namespace Go.Proofs.Yteicdkknciljhaa
open Go.RowKit Go.Chr

set_option maxRecDepth 100000 in
set_option maxHeartbeats 1000000 in
theorem refEncode_any (a0 a1 a2 a3 b0 b1 b2 b3 : Int) (w : World) (hA : ∀ x ∈ [a0, a1, a2, a3], 0 ≤ x ∧ x < 2 ^ 64) (hB : ∀ x ∈ [b0, b1, b2, b3], 0 ≤ x ∧ x < 2 ^ 64) :
    Calls Try.prog 16 #[.agg #[.int .u64 a0, .int .u64 a1, .int .u64 a2, .int .u64 a3], .agg #[.int .u64 b0, .int .u64 b1, .int .u64 b2, .int .u64 b3]] w
      (RetB w (derE (leB [a0, a1, a2, a3]).reverse (leB [b0, b1, b2, b3]).reverse)) := by
  obtain ⟨l1, hl1⟩ : ∃ l, l = derI (leB [a0, a1, a2, a3]).reverse := ⟨_, rfl⟩
  obtain ⟨l2, hl2⟩ : ∃ l, l = derI (leB [b0, b1, b2, b3]).reverse := ⟨_, rfl⟩
  have n1 : l1.length ≤ 35 := by
    have := (pBody_length (leB [a0, a1, a2, a3]).reverse (by intro h; have := congrArg List.length h; simp [leB_length] at this)).2
    rw [hl1, derI]; simp [leB_length] at this ⊢; omega
  have n0 : 0 < l1.length := by rw [hl1, derI]; simp
  have n2 : l2.length ≤ 35 := by
    have := (pBody_length (leB [b0, b1, b2, b3]).reverse (by intro h; have := congrArg List.length h; simp [leB_length] at this)).2
    rw [hl2, derI]; simp [leB_length] at this ⊢; omega
  have n0' : 0 < l2.length := by rw [hl2, derI]; simp
  have k1 := fun W => refInteger_any a0 a1 a2 a3 W hA
  have k2 := fun W => refInteger_any b0 b1 b2 b3 W hB
  rw [← hl1] at k1
  rw [← hl2] at k2
  have K1 := Lib.hid k1; have K2 := Lib.hid k2
  rw [show derE (leB [a0, a1, a2, a3]).reverse (leB [b0, b1, b2, b3]).reverse = 48 :: ((l1 ++ l2).length : Int) :: (l1 ++ l2) by rw [hl1, hl2]; rfl]
  clear hl1 hl2 k1 k2 hA hB
  go_enter Try.func16, Try.ntmps16
  go_wp2
  go_region_held3 (fun w' => w'.cell? ⟨w.heap.size, 0, none⟩ = some (.int .u64 a0) ∧ w'.cell? ⟨w.heap.size, 1, none⟩ = some (.int .u64 a1) ∧ w'.cell? ⟨w.heap.size, 2, none⟩ = some (.int .u64 a2) ∧ w'.cell? ⟨w.heap.size, 3, none⟩ = some (.int .u64 a3) ∧
      w'.cell? ⟨w.heap.size + 1, 0, none⟩ = some (.int .u64 b0) ∧ w'.cell? ⟨w.heap.size + 1, 1, none⟩ = some (.int .u64 b1) ∧ w'.cell? ⟨w.heap.size + 1, 2, none⟩ = some (.int .u64 b2) ∧ w'.cell? ⟨w.heap.size + 1, 3, none⟩ = some (.int .u64 b3))
    (go_keep)
    (first
      | (go_at_call 21; (with_reducible refine (K1.out _).mono ?_); rintro e w1 ⟨v1, rfl, hv1, hb1⟩; obtain ⟨hc1, -⟩ := bcell hb1; have hc1a := fun o => hc1 w.heap.size o (by simp; omega); have hc1b := fun o => hc1 (w.heap.size + 1) o (by simp); clear hc1; have hv1' := hv1.mono (B' := w.heap.size + 2) (by simp); have bb1 : Below w.heap.size w w1 := ((((Below.refl _ _).alloc (Nat.le_refl _) _).alloc (by simp) _).drew).trans (hb1.mono (by simp; omega)))
      | (go_at_call 21; (with_reducible refine (K2.out _).mono ?_); rintro e w2 ⟨v2, rfl, hv2, hb2⟩; obtain ⟨hc2, -⟩ := bcell hb2; have hz := hb1.size; simp at hz; have hc2a := fun o => hc2 w.heap.size o (by omega); have hc2b := fun o => hc2 (w.heap.size + 1) o (by omega); clear hc2; have hv1'' := hv1'.below hb2; have hv2' := hv2.ri; have bb2 := bb1.trans (hb2.mono bb1.size); have hz2 : w.heap.size + 2 ≤ w2.heap.size := by have := hb2.size; omega))
  obtain ⟨m1, hm1⟩ : ∃ m, m = l1.length := ⟨_, rfl⟩
  obtain ⟨m2, hm2⟩ : ∃ m, m = l2.length := ⟨_, rfl⟩
  have HV1 := Lib.hid hv1''; have HV2 := Lib.hid hv2; have HB := Lib.hid bb2
  clear hv1 hv1' hv1'' hv2 hv2' hc1a hc1b hc2a hc2b hb1 hb2 bb1 bb2 hz hz2 K1 K2
  rw [← hm1] at n0 n1
  rw [← hm2] at n0' n2
  obtain ⟨g1, c1, rfl, -, hc1⟩ := HV1.out.form hm1.symm n0
  obtain ⟨g2, c2, rfl, -, hc2⟩ := HV2.out.form hm2.symm n0'
  have HM1 := Lib.hid hm1; have HM2 := Lib.hid hm2
  clear hm1 hm2
  have HO := Lib.hid (OI.lit w2 5 .u8 [48, (m1 : Int) + m2] (by simp))
  have HS := Lib.hid (Below.alloc (Below.refl w2.heap.size w2) (Nat.le_refl _) (.cells #[.int .u8 48, .int .u8 ((m1 : Int) + m2)] 5))
  go_wp2_with (first | (at_builtin; (refine app_u8 (B := w2.heap.size) rfl (.tmp 19) (.tmp 20) rfl _ _ [48, (m1 : Int) + m2] l1 rfl rfl HO.out (HV1.out.ri.below HS.out) (by rw [← HM1.out]; simp; omega) HS.out.size ?_; intro v3 w3 hv3 hb3 _ _)) | (at_builtin; (refine app_u8 (B := w2.heap.size) rfl (.tmp 22) (.tmp 23) rfl _ _ ([48, (m1 : Int) + m2] ++ l1) l2 rfl rfl hv3 (HV2.out.ri.below (HS.out.trans hb3)) (by rw [List.length_append, ← HM1.out, ← HM2.out]; simp; omega) (Nat.le_trans HS.out.size hb3.size) ?_; intro v4 w4 hv4 hb4 _ _)))
  go_ret
  refine ⟨v4, rfl, ?_, HB.out.trans (((HS.out.trans hb3).trans hb4).mono HB.out.size)⟩
  have e : 48 :: ((l1 ++ l2).length : Int) :: (l1 ++ l2) = [48, (m1 : Int) + m2] ++ l1 ++ l2 := by
    rw [List.length_append, ← HM1.out, ← HM2.out]; simp
  rw [e]
  exact hv4.mono HB.out.size

/-- the number that bytes stand for -/
def numB (l : List Int) : List Int := leN ((List.replicate (33 - l.length) 0 ++ l).drop ((List.replicate (33 - l.length) 0 ++ l).length - 32)).reverse

set_option maxRecDepth 100000 in
set_option maxHeartbeats 1000000 in
theorem refNumber_any (u : Value) (l : List Int) (w : World) (hu : RI w .u8 u l) (hlen : l.length ≤ 200) (hby : ∀ x ∈ l, 0 ≤ x ∧ x < 256) :
    Calls Try.prog 15 #[u] w (fun e w' => e = .returned (.agg ((numB l).map (Value.int .u64)).toArray) ∧ Below w.heap.size w w') := by
  obtain ⟨A, c, rfl, hc, hr⟩ := hu
  have hu : RI w .u8 (.slice A l.length c) l := ⟨A, c, rfl, hc, hr⟩
  have HU := Lib.hid hu
  have HBY := Lib.hid hby
  clear hu hr hby
  obtain ⟨n, hn⟩ : ∃ n, n = l.length := ⟨_, rfl⟩
  have HN := Lib.hid hn
  rw [← hn] at HU hc hlen ⊢
  clear hn
  go_enter Try.func15, Try.ntmps15
  go_wp2_with fail
  go_loopw [3, 4] (fun v i wr => ∃ (j : Nat), (j = 0 ∨ n + j ≤ 33) ∧ i = .int .i64 (n + j : Nat) ∧ OI wr (w.heap.size + 1) 5 .u8 v (List.replicate j 0) ∧ Blk wr w.heap.size 26 #[.int .u64 0, .int .u64 0, .int .u64 0, .int .u64 0] ∧ Below w.heap.size w wr ∧ w.heap.size + 1 ≤ wr.heap.size) (fun _ i _ => 33 - (intOf i).toNat)
  case atStart => exact ⟨0, .inl rfl, rfl, OI.nil _ _ _ _, Blk.new w 26 _, (Below.refl _ _).alloc (Nat.le_refl _) _, by simp⟩
  case round =>
    obtain ⟨j, hj, rfl, hv, hb0, hB, hsz⟩ := hrel
    have HB0 := Lib.hid hb0; clear hb0
    by_cases hlt : n + j < 33
    · have hd : decide (((n + j : Nat) : Int) < 33) = true := by simp; omega
      go_wp2_with (at_builtin; refine app_u8 (B := w.heap.size + 1) rfl (.tmp 13) (.tmp 14) rfl _ _ _ [0] rfl rfl (OI.below hv ((Below.refl _ _).alloc (Nat.le_refl _) _)) (RI.one _ _ _ _) (by simp; omega) (by simp; omega) ?_; intro v1 w1 hv1 hb1 _ _)
      go_roundw
      case rel =>
        refine ⟨j + 1, .inr (by omega), by go_num, by rw [List.replicate_succ']; exact hv1, (HB0.out.alloc _).below hb1 (by omega), (hB.alloc hB.size _).trans (hb1.mono (by omega)), Nat.le_trans (by simp; omega) hb1.size⟩
      case measure => simp [intOf]; omega
    · have hd : decide ((n : Int) + (j : Int) < 33) = false := by simp; omega
      have HLL := Lib.hid (show (List.replicate j (0 : Int)).length + l.length ≤ 140737488355328 by rw [← HN.out]; simp; omega)
      have hj33 : 33 ≤ j + n := by omega
      have hj34 := Lib.hid (show j = 33 - n by omega)
      have hnn := Lib.hid hlen
      obtain ⟨m, hm⟩ : ∃ m, (List.replicate j (0 : Int) ++ l).length = m + 32 := ⟨j + n - 32, by rw [List.length_append, List.length_replicate, ← HN.out]; omega⟩
      have hm2 : m + 32 = j + n := by rw [← hm, List.length_append, List.length_replicate, ← HN.out]
      have HM2 := Lib.hid hm2
      have hm3 : m ≤ 210 := by omega
      have hm4 : (m : Int) ≤ 210 := by omega
      have HM := Lib.hid hm
      clear hm hm2 hj hlt hj33
      have HUR := Lib.hid (HU.out.below hB)
      have HV := Lib.hid hv
      clear hv
      go_wp2_with (at_builtin; refine app_u8 (B := w.heap.size + 1) rfl (.tmp 16) (.tmp 17) rfl _ _ (List.replicate j 0) l rfl rfl HV.out HUR.out HLL.out hsz ?_; intro v1 w1 hv1 hb1 _ _; have HV1 := Lib.hid hv1; clear hv1; obtain ⟨g, cap, rfl, hg, hcap⟩ := HV1.out.form HM.out (by omega))
      have hcut := HV1.out.ri.slice_ (i := m) (j := m + 32) (by omega) (Nat.le_refl _)
      have hne : cap ≠ m := by omega
      have hA : (⟨g, 0, none⟩ : Addr).add m = ⟨g, m, none⟩ := by
        unfold Addr.add; split
        · subst_vars; rfl
        · simp
      rw [if_neg hne, show m + 32 - m = 32 by omega] at hcut
      simp only [Option.map_some, hA] at hcut
      have hL32 : (((List.replicate j (0 : Int) ++ l).drop m).take 32).length = 32 := by rw [List.length_take, List.length_drop, HM.out]; omega
      have hLb : ∀ x ∈ ((List.replicate j (0 : Int) ++ l).drop m).take 32, 0 ≤ x ∧ x < 256 := fun x hx => by
        have hx := List.mem_of_mem_drop (List.mem_of_mem_take hx)
        rw [List.mem_append] at hx
        rcases hx with hx | hx
        · have := List.eq_of_mem_replicate hx; omega
        · exact HBY.out x hx
      have hnum : leN (((List.replicate j (0 : Int) ++ l).drop m).take 32).reverse = numB l := by
        unfold numB
        rw [← HN.out, ← hj34.out, HM.out, show m + 32 - 32 = m by omega, List.take_of_length_le (by rw [List.length_drop, HM.out]; omega)]
      refine (refBig_any _ _ w1 hcut hLb hL32).mono ?_
      rw [hnum]
      rintro e w2 ⟨rfl, hb2⟩
      obtain ⟨x0, x1, x2, x3, hX⟩ : ∃ x0 x1 x2 x3, numB l = [x0, x1, x2, x3] := ⟨_, _, _, _, rfl⟩
      rw [hX]
      simp only [List.map_cons, List.map_nil]
      have HX := Lib.hid hX
      have hB2 : Below w.heap.size w w2 := hB.trans ((hb1.mono (by omega)).trans (hb2.mono (by have := hb1.size; omega)))
      have H0 := Lib.hid ((HB0.out.below hb1 (by omega)).below hb2 (by have := hb1.size; omega))
      have r2 := H0.out.cell
      have r3 := H0.out.frozen
      have r4 := H0.out.lt
      clear hcut hL32 hLb hnum hX HM HN HV1 HV HUR HLL HU HBY HB0 hb1 hb2
      go_wp2

      have hfin := ((((H0.out.set_ 0 (.int .u64 x0)).set_ 1 (.int .u64 x1)).set_ 2 (.int .u64 x2)).set_ 3 (.int .u64 x3)).alloc (.cells #[.int .u64 x0, .int .u64 x1, .int .u64 x2, .int .u64 x3] 26)
      have hBF := ((((hB2.setCell (p := ⟨w.heap.size, 0, none⟩) (Nat.le_refl _) (.int .u64 x0)).setCell (p := ⟨w.heap.size, 1, none⟩) (Nat.le_refl _) (.int .u64 x1)).setCell (p := ⟨w.heap.size, 2, none⟩) (Nat.le_refl _) (.int .u64 x2)).setCell (p := ⟨w.heap.size, 3, none⟩) (Nat.le_refl _) (.int .u64 x3))
      have hBF := hBF.alloc hBF.size (.cells #[.int .u64 x0, .int .u64 x1, .int .u64 x2, .int .u64 x3] 26)
      refine bodyPost_ret (results_blk (d := .array 4 24) Try.results15 rfl hfin rfl Try.underlying26 (by kernel_rfl)) rfl ⟨by rw [HX.out]; rfl, ?_⟩
      exact hBF
end Go.Proofs.Yteicdkknciljhaa
