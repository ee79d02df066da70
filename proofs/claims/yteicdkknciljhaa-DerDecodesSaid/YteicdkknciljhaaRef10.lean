/- Contracts of the reference's layer 10. -/
import Derived.Test.YteicdkknciljhaaBack
namespace Go.Proofs.Yteicdkknciljhaa
open Go.RowKit Go.Chr

set_option maxRecDepth 100000 in
set_option maxHeartbeats 1000000 in
theorem refInteger_any (a0 a1 a2 a3 : Int) (w : World) (h : ∀ x ∈ [a0, a1, a2, a3], 0 ≤ x ∧ x < 2 ^ 64) :
    Calls Try.prog 21 #[.agg #[.int .u64 a0, .int .u64 a1, .int .u64 a2, .int .u64 a3]] w (RetB w (derI (leB [a0, a1, a2, a3]).reverse)) := by
  have H4 := Lib.hid h; clear h
  go_enter Try.func21, Try.ntmps21
  go_wp2_with fail
  refine (refPutBig_any a0 a1 a2 a3 _ H4.out).mono ?_
  rintro e w1 ⟨v, rfl, hv, hb⟩
  obtain ⟨B, hB⟩ : ∃ B, B = (leB [a0, a1, a2, a3]).reverse := ⟨_, rfl⟩
  rw [← hB] at hv ⊢
  have hBl : B.length = 32 := by rw [hB]; simp [leB_length]
  have hBb : ∀ x ∈ B, 0 ≤ x ∧ x < 256 := by rw [hB]; exact fun x hx => leB_bd _ x (List.mem_reverse.1 hx)
  have hr := hv.ri
  have hb2 : Below w.heap.size w w1 := ((Below.refl _ _).alloc (Nat.le_refl _) _).trans (hb.mono (by simp))
  obtain ⟨g, cap, rfl, -, hcap⟩ := hv.form hBl (by omega)
  have HBEQ := Lib.hid hB
  clear hv hb hB H4
  have cellAt : ∀ k, k < 32 → ∃ x, B[k]? = some x ∧ 0 ≤ x ∧ x < 256 ∧ w1.cell? ⟨g, k, none⟩ = some (.int .u8 x) := by
    intro k hk
    obtain ⟨-, ad, x, e, hx, hc⟩ := hr.at_ (i := k) (by omega)
    injection e with e
    subst e
    refine ⟨x, hx, (hBb x (List.mem_of_getElem? hx)).1, (hBb x (List.mem_of_getElem? hx)).2, ?_⟩
    rw [← hc]; congr 1; unfold Addr.add; split
    · subst_vars; rfl
    · simp
  have HR := Lib.hid hr; have HL := Lib.hid hBl; have HC := Lib.hid cellAt; have HB2 := Lib.hid hb2
  clear hr hBl cellAt hb2 hBb
  go_wp2_with fail
  go_loop [4] (fun v => ∃ k : Nat, k ≤ 31 ∧ v = .int .i64 k ∧ pBody (B.drop k) = pBody B) (fun v => 31 - (intOf v).toNat)
  case atStart => exact ⟨0, by omega, rfl, rfl⟩
  case round =>
    obtain ⟨k, hk, rfl, hp⟩ := hrel
    obtain ⟨x, hx, x0, x1, hc⟩ := HC.out k (by omega)
    by_cases hgo : k < 31 ∧ x = 0
    · obtain ⟨hk2, rfl⟩ := hgo
      have d1 : decide ((k : Int) < 31) = true := by simp; omega
      have i1 : (k : Int) < 32 := by omega
      have HP := Lib.hid hp; have HX := Lib.hid hx
      clear hp hx
      go_wp2
      go_round
      case rel => exact ⟨k + 1, by omega, by go_num, by rw [pBody_drop HX.out (by rw [HL.out]; omega), HP.out]⟩
      case measure => simp [intOf]; omega
    · have hbody : pBody B = if 128 ≤ x then 0 :: B.drop k else B.drop k := by
        obtain ⟨h, e⟩ := List.getElem?_eq_some_iff.1 hx
        rw [← hp, List.drop_eq_getElem_cons h, e]
        refine pBody_stop _ _ ?_
        by_cases h31 : k = 31
        · left; rw [List.drop_eq_nil_iff, HL.out]; omega
        · right; exact fun h0 => hgo ⟨by omega, h0⟩
      have HBODY := Lib.hid hbody
      have hdl : (B.drop k).length = 32 - k := by rw [List.length_drop, HL.out]
      have HDL := Lib.hid hdl
      have i1 : (k : Int) < 32 := by omega
      have i2 : (k : Int) ≤ 32 := by omega
      have hcut := HR.out.slice_ (i := k) (j := 32) (by omega) (Nat.le_refl _)
      have ht : List.take (32 - k) (List.drop k B) = B.drop k := List.take_of_length_le (by rw [hdl]; exact Nat.le_refl _)
      rw [ht, if_neg (show cap ≠ k by omega)] at hcut
      have HCUT := Lib.hid (show RI w1 .u8 (.slice (some ⟨g, k, none⟩) (32 - k) (cap - k)) (B.drop k) by
        have e : (⟨g, 0, none⟩ : Addr).add k = ⟨g, k, none⟩ := by
          unfold Addr.add; split
          · subst_vars; rfl
          · simp
        rw [← e]; exact hcut)
      clear hp hx hbody hdl hcut ht
      have dd : (decide ((k : Int) < 31) = true ∧ (x == 0) = false) ∨ decide ((k : Int) < 31) = false := by
        by_cases h31 : k < 31
        · left; exact ⟨by simp; omega, beq_eq_false_iff_ne.2 fun h0 => hgo ⟨h31, h0⟩⟩
        · right; simp; omega
      clear hgo
      by_cases hx : 128 ≤ x
      · have d9 : decide ((128 : Int) ≤ x) = true := by simpa using hx
        have O1 := OI.lit w1 5 .u8 [2, 32 - (k : Int) + 1, 0] (by simp)
        have HO1 := Lib.hid O1
        have R1 := HCUT.out
        have HS1 := Lib.hid (Below.alloc (Below.refl w1.heap.size w1) (Nat.le_refl _) (.cells #[.int .u8 2, .int .u8 (32 - (k : Int) + 1), .int .u8 0] 5))
        clear O1 R1
        rcases dd with ⟨d1, d2⟩ | d1
        all_goals
          go_wp2_with (first | (at_builtin; (refine app_u8 (B := w1.heap.size) rfl (.tmp 27) (.tmp 31) rfl _ _ [] [2, 32 - (k : Int) + 1, 0] rfl rfl (OI.nil _ _ _ _) HO1.out.ri (by simp) (by simp) ?_; intro v1 w2 hv1 hb2 _ _)) | (at_builtin; (refine app_u8 (B := w1.heap.size) rfl (.tmp 38) (.tmp 41) rfl _ _ ([] ++ [2, 32 - (k : Int) + 1, 0]) (B.drop k) rfl rfl hv1 (HCUT.out.below (HS1.out.trans hb2)) (by rw [HDL.out]; simp; omega) (Nat.le_trans HS1.out.size hb2.size) ?_; intro v2 w3 hv2 hb3 _ _)))
          go_ret
          refine ⟨v2, rfl, ?_, HB2.out.trans (((HS1.out.trans hb2).trans hb3).mono HB2.out.size)⟩
          have e : derI B = [2, 32 - (k : Int) + 1, 0] ++ B.drop k := by
            unfold derI
            rw [HBODY.out, if_pos hx, List.length_cons, HDL.out]
            simp; omega
          rw [← HBEQ.out, e]
          exact hv2.mono HB2.out.size
      · have d9 : decide ((128 : Int) ≤ x) = false := by simpa using hx
        have HO1 := Lib.hid (OI.lit w1 5 .u8 [2, 32 - (k : Int)] (by simp))
        have HS1 := Lib.hid (Below.alloc (Below.refl w1.heap.size w1) (Nat.le_refl _) (.cells #[.int .u8 2, .int .u8 (32 - (k : Int))] 5))
        rcases dd with ⟨d1, d2⟩ | d1
        all_goals
          go_wp2_with (first | (at_builtin; (refine app_u8 (B := w1.heap.size) rfl (.tmp 33) (.tmp 36) rfl _ _ [] [2, 32 - (k : Int)] rfl rfl (OI.nil _ _ _ _) HO1.out.ri (by simp) (by simp) ?_; intro v1 w2 hv1 hb2 _ _)) | (at_builtin; (refine app_u8 (B := w1.heap.size) rfl (.tmp 38) (.tmp 41) rfl _ _ ([] ++ [2, 32 - (k : Int)]) (B.drop k) rfl rfl hv1 (HCUT.out.below (HS1.out.trans hb2)) (by rw [HDL.out]; simp; omega) (Nat.le_trans HS1.out.size hb2.size) ?_; intro v2 w3 hv2 hb3 _ _)))
          go_ret
          refine ⟨v2, rfl, ?_, HB2.out.trans (((HS1.out.trans hb2).trans hb3).mono HB2.out.size)⟩
          have e : derI B = [2, 32 - (k : Int)] ++ B.drop k := by
            unfold derI
            rw [HBODY.out, if_neg (by omega), HDL.out]
            simp; omega
          rw [← HBEQ.out, e]
          exact hv2.mono HB2.out.size
end Go.Proofs.Yteicdkknciljhaa
