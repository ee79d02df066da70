/- Contracts of the layer der: what is encoded. -/
import Derived.Test.YteicdkknciljhaaRef3
namespace Go.Proofs.Yteicdkknciljhaa
open Go.RowKit Go.Chr

/-- a slice's length -/
def lenV : Value → Nat
  | .slice _ n _ => n
  | _ => 0

set_option maxRecDepth 100000 in
set_option maxHeartbeats 1000000 in
theorem integer_any (a0 a1 a2 a3 : Int) (w : World) :
    Calls Try.prog 17 #[.agg #[.int .u64 a0, .int .u64 a1, .int .u64 a2, .int .u64 a3]] w (RetB w (derI (leB [a0, a1, a2, a3]).reverse)) := by
  go_enter Try.func17, Try.ntmps17
  go_wp2_with fail
  refine (putBig_any a0 a1 a2 a3 _).mono ?_
  rintro e w1 ⟨v, rfl, hv, hb⟩
  obtain ⟨B, hB⟩ : ∃ B, B = (leB [a0, a1, a2, a3]).reverse := ⟨_, rfl⟩
  rw [← hB] at hv ⊢
  have hBl : B.length = 32 := by rw [hB]; simp [leB_length]
  have HBEQ := Lib.hid hB; clear hB
  have hr := hv.ri
  have hb2 : Below w.heap.size w w1 := ((Below.refl _ _).alloc (Nat.le_refl _) _).trans (hb.mono (by simp))
  clear hv hb
  have HBl := Lib.hid hBl; clear hBl
  go_wp2_with fail
  go_loop [3] (fun v => ∃ l, RI w1 .u8 v l ∧ l ≠ [] ∧ l.length ≤ 32 ∧ pBody l = pBody B) (fun v => lenV v)
  case atStart => exact ⟨B, hr, by intro h; rw [h] at HBl; simp [Hid] at HBl, by rw [HBl.out]; omega, rfl⟩
  case round =>
    obtain ⟨l, hl, hne, hlen, hp⟩ := hrel
    obtain ⟨x, r, rfl⟩ : ∃ x r, l = x :: r := by
      rcases l with _ | ⟨x, r⟩
      · exact (hne rfl).elim
      · exact ⟨x, r, rfl⟩
    have hl' := hl
    obtain ⟨A, c, rfl, hc, -⟩ := hl
    obtain ⟨-, ad, x', rfl, hx', cell0⟩ := hl'.at_ (i := 0) (by simp)
    obtain rfl : x' = x := by simpa using hx'.symm
    clear hx' hne
    obtain ⟨n, hn⟩ : ∃ n, n = (x' :: r).length := ⟨_, rfl⟩
    rw [← hn] at hl' hc hlen ⊢
    have n1 : 1 ≤ n := by rw [hn]; simp
    have cell0' : w1.cell? ad = some (.int .u8 x') := cell0
    by_cases hA : ∃ y r', r = y :: r' ∧ x' = 0 ∧ y < 128
    · obtain ⟨y, r', rfl, rfl, hy⟩ := hA
      obtain ⟨-, ad2, y', e, hy', cell1⟩ := hl'.at_ (i := 1) (by simp)
      injection e with e
      subst e
      obtain rfl : y' = y := by simpa using hy'.symm
      have cell1' : w1.cell? ⟨ad.block, ad.off + 1, none⟩ = some (.int .u8 y') := cell1
      have n2 : (1 : Int) < n := by rw [hn]; simp; omega
      have c1 : c ≠ 1 := by omega
      have c2 : (1 : Int) ≤ n := by omega
      have cut := hl'.slice_ (i := 1) (j := n) (by omega) (Nat.le_refl _)
      have hcut : List.take (n - 1) (List.drop 1 (0 :: y' :: r')) = y' :: r' := by rw [hn]; simp
      rw [hcut, if_neg c1] at cut
      have HN := Lib.hid hn; have HCUT := Lib.hid cut; have HP := Lib.hid hp
      clear hn cut hp hcut hl' hy'
      go_wp2
      go_round
      case rel => exact ⟨y' :: r', HCUT.out, by simp, by have := HN.out; simp at this ⊢; omega, by rw [← HP.out, pBody_zero]⟩
      case measure => simp [lenV]; omega
    · have hstop : r = [] ∨ x' ≠ 0 ∨ ∃ y r', r = y :: r' ∧ 128 ≤ y ∧ x' = 0 := by
        rcases r with _ | ⟨y, r'⟩
        · exact .inl rfl
        · by_cases h0 : x' = 0
          · exact .inr (.inr ⟨y, r', rfl, by
              apply Classical.byContradiction; intro h; exact hA ⟨y, r', rfl, h0, by omega⟩, h0⟩)
          · exact .inr (.inl h0)
      have hbody : pBody B = if 128 ≤ x' then 0 :: x' :: r else x' :: r := by
        rw [← hp]
        rcases hstop with h | h | ⟨y, r', rfl, h, -⟩
        · exact pBody_stop x' r (.inl h)
        · exact pBody_stop x' r (.inr h)
        · rw [pBody, if_neg (by omega)]
      have HBODY := Lib.hid hbody
      clear hA hp hbody
      have HN := Lib.hid hn; have HL := Lib.hid hl'
      clear hn hl'
      rcases hstop with hr0 | h0 | ⟨y, r', hr0, hy, h0⟩
      · have n2 : decide ((1 : Int) < n) = false := by have := HN.out; rw [hr0] at this; simp at this ⊢; omega
        clear hr0
        by_cases hx : 128 ≤ x'
        · have HX := Lib.hid hx
          have d9 : decide ((128 : Int) ≤ x') = true := by simpa using hx
          have L1 : (x' :: r).length = n := HN.out.symm
          have L2 : [(0 : Int)].length + (x' :: r).length ≤ 140737488355328 := by rw [L1]; simp; omega
          have L3 : w1.heap.size ≤ (w1.alloc (.cells #[.int .u8 0] 5)).heap.size := by simp
          have L4 : ([(0 : Int)] ++ (x' :: r)).length = n + 1 := by rw [List.length_append, L1]; simp; omega
          have L5 : [2, (n : Int) + 1].length + ([(0 : Int)] ++ (x' :: r)).length ≤ 140737488355328 := by rw [L4]; simp; omega
          have O1 := OI.lit w1 5 .u8 [0] (by simp)
          have R1 := HL.out.below ((Below.refl _ w1).alloc (Nat.le_refl _) (.cells #[.int .u8 0] 5))
          have HL1 := Lib.hid L1; have HL2 := Lib.hid L2; have HL3 := Lib.hid L3; have HL4 := Lib.hid L4; have HL5 := Lib.hid L5; have HO1 := Lib.hid O1; have HR1 := Lib.hid R1
          clear L1 L2 L3 L4 L5 O1 R1
          go_wp2_with (first | (at_builtin; refine app_u8 (B := w1.heap.size) rfl (.tmp 27) (.tmp 28) rfl _ _ [0] (x' :: r) rfl rfl HO1.out HR1.out HL2.out HL3.out ?_; intro v1 w2 hv1 hb3 _ _; obtain ⟨g, cap, rfl, -, -⟩ := hv1.form (n := n + 1) HL4.out (Nat.succ_pos _); have HV := Lib.hid hv1; clear hv1; have hb3' : Below w1.heap.size w1 w2 := ((Below.refl _ _).alloc (Nat.le_refl _) _).trans hb3) | (at_builtin; refine app_u8 (B := w2.heap.size) rfl (.tmp 33) (.tmp 34) rfl _ _ [2, (n : Int) + 1] ([0] ++ (x' :: r)) rfl rfl (OI.lit w2 _ _ [2, (n : Int) + 1] (by simp)) (HV.out.ri.below ((Below.refl _ _).alloc (Nat.le_refl _) _)) HL5.out (by simp) ?_; intro v2 w3 hv2 hb4 _ _))
          go_ret
          have hx := HX.out
          have hbd := HBODY.out
          rw [if_pos (by omega)] at hbd
          refine ⟨v2, rfl, ?_, hb2.trans (hb3'.trans ((((Below.refl _ _).alloc (Nat.le_refl _) _).trans hb4).mono hb3'.size) |>.mono hb2.size)⟩
          have hn := HN.out
          unfold derI; rw [← HBEQ.out]
          rw [hbd, show ((0 :: x' :: r : List Int).length : Int) = (n : Int) + 1 by rw [hn]; simp]
          exact hv2.mono (Nat.le_trans hb2.size hb3'.size)
        · have HX := Lib.hid hx
          have d9 : decide ((128 : Int) ≤ x') = false := by simpa using hx
          have L1 : (x' :: r).length = n := HN.out.symm
          have L2 : [2, (n : Int)].length + (x' :: r).length ≤ 140737488355328 := by rw [L1]; simp; omega
          have L3 : w1.heap.size ≤ (w1.alloc (.cells #[.int .u8 2, .int .u8 n] 5)).heap.size := by simp
          have O1 := OI.lit w1 5 .u8 [2, (n : Int)] (by simp)
          have R1 := HL.out.below ((Below.refl _ w1).alloc (Nat.le_refl _) (.cells #[.int .u8 2, .int .u8 n] 5))
          have HL1 := Lib.hid L1; have HL2 := Lib.hid L2; have HL3 := Lib.hid L3; have HO1 := Lib.hid O1; have HR1 := Lib.hid R1
          clear L1 L2 L3 O1 R1
          go_wp2_with (at_builtin; refine app_u8 (B := w1.heap.size) rfl (.tmp 33) (.tmp 34) rfl _ _ [2, (n : Int)] (x' :: r) rfl rfl HO1.out HR1.out HL2.out HL3.out ?_; intro v1 w2 hv1 hb3 _ _)
          go_ret
          have hx := HX.out
          have hbd := HBODY.out
          rw [if_neg (by omega)] at hbd
          refine ⟨v1, rfl, ?_, hb2.trans (((Below.refl _ _).alloc (Nat.le_refl _) _).trans hb3 |>.mono hb2.size)⟩
          have hn := HN.out
          unfold derI; rw [← HBEQ.out]
          rw [hbd, ← hn]
          exact hv1.mono hb2.size
      · have d2 : (x' == 0) = false := by simpa using h0
        by_cases n2' : (1 : Int) < n
        · have n2 : decide ((1 : Int) < n) = true := by simpa using n2'
          clear n2'
          by_cases hx : 128 ≤ x'
          · have HX := Lib.hid hx
            have d9 : decide ((128 : Int) ≤ x') = true := by simpa using hx
            have L1 : (x' :: r).length = n := HN.out.symm
            have L2 : [(0 : Int)].length + (x' :: r).length ≤ 140737488355328 := by rw [L1]; simp; omega
            have L3 : w1.heap.size ≤ (w1.alloc (.cells #[.int .u8 0] 5)).heap.size := by simp
            have L4 : ([(0 : Int)] ++ (x' :: r)).length = n + 1 := by rw [List.length_append, L1]; simp; omega
            have L5 : [2, (n : Int) + 1].length + ([(0 : Int)] ++ (x' :: r)).length ≤ 140737488355328 := by rw [L4]; simp; omega
            have O1 := OI.lit w1 5 .u8 [0] (by simp)
            have R1 := HL.out.below ((Below.refl _ w1).alloc (Nat.le_refl _) (.cells #[.int .u8 0] 5))
            have HL1 := Lib.hid L1; have HL2 := Lib.hid L2; have HL3 := Lib.hid L3; have HL4 := Lib.hid L4; have HL5 := Lib.hid L5; have HO1 := Lib.hid O1; have HR1 := Lib.hid R1
            clear L1 L2 L3 L4 L5 O1 R1
            go_wp2_with (first | (at_builtin; refine app_u8 (B := w1.heap.size) rfl (.tmp 27) (.tmp 28) rfl _ _ [0] (x' :: r) rfl rfl HO1.out HR1.out HL2.out HL3.out ?_; intro v1 w2 hv1 hb3 _ _; obtain ⟨g, cap, rfl, -, -⟩ := hv1.form (n := n + 1) HL4.out (Nat.succ_pos _); have HV := Lib.hid hv1; clear hv1; have hb3' : Below w1.heap.size w1 w2 := ((Below.refl _ _).alloc (Nat.le_refl _) _).trans hb3) | (at_builtin; refine app_u8 (B := w2.heap.size) rfl (.tmp 33) (.tmp 34) rfl _ _ [2, (n : Int) + 1] ([0] ++ (x' :: r)) rfl rfl (OI.lit w2 _ _ [2, (n : Int) + 1] (by simp)) (HV.out.ri.below ((Below.refl _ _).alloc (Nat.le_refl _) _)) HL5.out (by simp) ?_; intro v2 w3 hv2 hb4 _ _))
            go_ret
            have hx := HX.out
            have hbd := HBODY.out
            rw [if_pos (by omega)] at hbd
            refine ⟨v2, rfl, ?_, hb2.trans (hb3'.trans ((((Below.refl _ _).alloc (Nat.le_refl _) _).trans hb4).mono hb3'.size) |>.mono hb2.size)⟩
            have hn := HN.out
            unfold derI; rw [← HBEQ.out]
            rw [hbd, show ((0 :: x' :: r : List Int).length : Int) = (n : Int) + 1 by rw [hn]; simp]
            exact hv2.mono (Nat.le_trans hb2.size hb3'.size)
          · have HX := Lib.hid hx
            have d9 : decide ((128 : Int) ≤ x') = false := by simpa using hx
            have L1 : (x' :: r).length = n := HN.out.symm
            have L2 : [2, (n : Int)].length + (x' :: r).length ≤ 140737488355328 := by rw [L1]; simp; omega
            have L3 : w1.heap.size ≤ (w1.alloc (.cells #[.int .u8 2, .int .u8 n] 5)).heap.size := by simp
            have O1 := OI.lit w1 5 .u8 [2, (n : Int)] (by simp)
            have R1 := HL.out.below ((Below.refl _ w1).alloc (Nat.le_refl _) (.cells #[.int .u8 2, .int .u8 n] 5))
            have HL1 := Lib.hid L1; have HL2 := Lib.hid L2; have HL3 := Lib.hid L3; have HO1 := Lib.hid O1; have HR1 := Lib.hid R1
            clear L1 L2 L3 O1 R1
            go_wp2_with (at_builtin; refine app_u8 (B := w1.heap.size) rfl (.tmp 33) (.tmp 34) rfl _ _ [2, (n : Int)] (x' :: r) rfl rfl HO1.out HR1.out HL2.out HL3.out ?_; intro v1 w2 hv1 hb3 _ _)
            go_ret
            have hx := HX.out
            have hbd := HBODY.out
            rw [if_neg (by omega)] at hbd
            refine ⟨v1, rfl, ?_, hb2.trans (((Below.refl _ _).alloc (Nat.le_refl _) _).trans hb3 |>.mono hb2.size)⟩
            have hn := HN.out
            unfold derI; rw [← HBEQ.out]
            rw [hbd, ← hn]
            exact hv1.mono hb2.size
        · have n2 : decide ((1 : Int) < n) = false := by simpa using n2'
          clear n2'
          by_cases hx : 128 ≤ x'
          · have HX := Lib.hid hx
            have d9 : decide ((128 : Int) ≤ x') = true := by simpa using hx
            have L1 : (x' :: r).length = n := HN.out.symm
            have L2 : [(0 : Int)].length + (x' :: r).length ≤ 140737488355328 := by rw [L1]; simp; omega
            have L3 : w1.heap.size ≤ (w1.alloc (.cells #[.int .u8 0] 5)).heap.size := by simp
            have L4 : ([(0 : Int)] ++ (x' :: r)).length = n + 1 := by rw [List.length_append, L1]; simp; omega
            have L5 : [2, (n : Int) + 1].length + ([(0 : Int)] ++ (x' :: r)).length ≤ 140737488355328 := by rw [L4]; simp; omega
            have O1 := OI.lit w1 5 .u8 [0] (by simp)
            have R1 := HL.out.below ((Below.refl _ w1).alloc (Nat.le_refl _) (.cells #[.int .u8 0] 5))
            have HL1 := Lib.hid L1; have HL2 := Lib.hid L2; have HL3 := Lib.hid L3; have HL4 := Lib.hid L4; have HL5 := Lib.hid L5; have HO1 := Lib.hid O1; have HR1 := Lib.hid R1
            clear L1 L2 L3 L4 L5 O1 R1
            go_wp2_with (first | (at_builtin; refine app_u8 (B := w1.heap.size) rfl (.tmp 27) (.tmp 28) rfl _ _ [0] (x' :: r) rfl rfl HO1.out HR1.out HL2.out HL3.out ?_; intro v1 w2 hv1 hb3 _ _; obtain ⟨g, cap, rfl, -, -⟩ := hv1.form (n := n + 1) HL4.out (Nat.succ_pos _); have HV := Lib.hid hv1; clear hv1; have hb3' : Below w1.heap.size w1 w2 := ((Below.refl _ _).alloc (Nat.le_refl _) _).trans hb3) | (at_builtin; refine app_u8 (B := w2.heap.size) rfl (.tmp 33) (.tmp 34) rfl _ _ [2, (n : Int) + 1] ([0] ++ (x' :: r)) rfl rfl (OI.lit w2 _ _ [2, (n : Int) + 1] (by simp)) (HV.out.ri.below ((Below.refl _ _).alloc (Nat.le_refl _) _)) HL5.out (by simp) ?_; intro v2 w3 hv2 hb4 _ _))
            go_ret
            have hx := HX.out
            have hbd := HBODY.out
            rw [if_pos (by omega)] at hbd
            refine ⟨v2, rfl, ?_, hb2.trans (hb3'.trans ((((Below.refl _ _).alloc (Nat.le_refl _) _).trans hb4).mono hb3'.size) |>.mono hb2.size)⟩
            have hn := HN.out
            unfold derI; rw [← HBEQ.out]
            rw [hbd, show ((0 :: x' :: r : List Int).length : Int) = (n : Int) + 1 by rw [hn]; simp]
            exact hv2.mono (Nat.le_trans hb2.size hb3'.size)
          · have HX := Lib.hid hx
            have d9 : decide ((128 : Int) ≤ x') = false := by simpa using hx
            have L1 : (x' :: r).length = n := HN.out.symm
            have L2 : [2, (n : Int)].length + (x' :: r).length ≤ 140737488355328 := by rw [L1]; simp; omega
            have L3 : w1.heap.size ≤ (w1.alloc (.cells #[.int .u8 2, .int .u8 n] 5)).heap.size := by simp
            have O1 := OI.lit w1 5 .u8 [2, (n : Int)] (by simp)
            have R1 := HL.out.below ((Below.refl _ w1).alloc (Nat.le_refl _) (.cells #[.int .u8 2, .int .u8 n] 5))
            have HL1 := Lib.hid L1; have HL2 := Lib.hid L2; have HL3 := Lib.hid L3; have HO1 := Lib.hid O1; have HR1 := Lib.hid R1
            clear L1 L2 L3 O1 R1
            go_wp2_with (at_builtin; refine app_u8 (B := w1.heap.size) rfl (.tmp 33) (.tmp 34) rfl _ _ [2, (n : Int)] (x' :: r) rfl rfl HO1.out HR1.out HL2.out HL3.out ?_; intro v1 w2 hv1 hb3 _ _)
            go_ret
            have hx := HX.out
            have hbd := HBODY.out
            rw [if_neg (by omega)] at hbd
            refine ⟨v1, rfl, ?_, hb2.trans (((Below.refl _ _).alloc (Nat.le_refl _) _).trans hb3 |>.mono hb2.size)⟩
            have hn := HN.out
            unfold derI; rw [← HBEQ.out]
            rw [hbd, ← hn]
            exact hv1.mono hb2.size
      · have n2 : decide ((1 : Int) < n) = true := by have := HN.out; rw [hr0] at this; simp at this ⊢; omega
        obtain ⟨-, ad2, y', e, hy', cell1⟩ := HL.out.at_ (i := 1) (by rw [hr0]; simp)
        injection e with e
        subst e
        obtain rfl : y' = y := by rw [hr0] at hy'; simpa using hy'.symm
        have cell1' : w1.cell? ⟨ad.block, ad.off + 1, none⟩ = some (.int .u8 y') := cell1
        have d3 : decide (y' < (128 : Int)) = false := by simp; omega
        have n3 : (1 : Int) < n := by simpa using n2
        have d2 : (x' == 0) = true := by simpa using h0
        clear h0
        clear hr0 hy'
        by_cases hx : 128 ≤ x'
        · have HX := Lib.hid hx
          have d9 : decide ((128 : Int) ≤ x') = true := by simpa using hx
          have L1 : (x' :: r).length = n := HN.out.symm
          have L2 : [(0 : Int)].length + (x' :: r).length ≤ 140737488355328 := by rw [L1]; simp; omega
          have L3 : w1.heap.size ≤ (w1.alloc (.cells #[.int .u8 0] 5)).heap.size := by simp
          have L4 : ([(0 : Int)] ++ (x' :: r)).length = n + 1 := by rw [List.length_append, L1]; simp; omega
          have L5 : [2, (n : Int) + 1].length + ([(0 : Int)] ++ (x' :: r)).length ≤ 140737488355328 := by rw [L4]; simp; omega
          have O1 := OI.lit w1 5 .u8 [0] (by simp)
          have R1 := HL.out.below ((Below.refl _ w1).alloc (Nat.le_refl _) (.cells #[.int .u8 0] 5))
          have HL1 := Lib.hid L1; have HL2 := Lib.hid L2; have HL3 := Lib.hid L3; have HL4 := Lib.hid L4; have HL5 := Lib.hid L5; have HO1 := Lib.hid O1; have HR1 := Lib.hid R1
          clear L1 L2 L3 L4 L5 O1 R1
          go_wp2_with (first | (at_builtin; refine app_u8 (B := w1.heap.size) rfl (.tmp 27) (.tmp 28) rfl _ _ [0] (x' :: r) rfl rfl HO1.out HR1.out HL2.out HL3.out ?_; intro v1 w2 hv1 hb3 _ _; obtain ⟨g, cap, rfl, -, -⟩ := hv1.form (n := n + 1) HL4.out (Nat.succ_pos _); have HV := Lib.hid hv1; clear hv1; have hb3' : Below w1.heap.size w1 w2 := ((Below.refl _ _).alloc (Nat.le_refl _) _).trans hb3) | (at_builtin; refine app_u8 (B := w2.heap.size) rfl (.tmp 33) (.tmp 34) rfl _ _ [2, (n : Int) + 1] ([0] ++ (x' :: r)) rfl rfl (OI.lit w2 _ _ [2, (n : Int) + 1] (by simp)) (HV.out.ri.below ((Below.refl _ _).alloc (Nat.le_refl _) _)) HL5.out (by simp) ?_; intro v2 w3 hv2 hb4 _ _))
          go_ret
          have hx := HX.out
          have hbd := HBODY.out
          rw [if_pos (by omega)] at hbd
          refine ⟨v2, rfl, ?_, hb2.trans (hb3'.trans ((((Below.refl _ _).alloc (Nat.le_refl _) _).trans hb4).mono hb3'.size) |>.mono hb2.size)⟩
          have hn := HN.out
          unfold derI; rw [← HBEQ.out]
          rw [hbd, show ((0 :: x' :: r : List Int).length : Int) = (n : Int) + 1 by rw [hn]; simp]
          exact hv2.mono (Nat.le_trans hb2.size hb3'.size)
        · have HX := Lib.hid hx
          have d9 : decide ((128 : Int) ≤ x') = false := by simpa using hx
          have L1 : (x' :: r).length = n := HN.out.symm
          have L2 : [2, (n : Int)].length + (x' :: r).length ≤ 140737488355328 := by rw [L1]; simp; omega
          have L3 : w1.heap.size ≤ (w1.alloc (.cells #[.int .u8 2, .int .u8 n] 5)).heap.size := by simp
          have O1 := OI.lit w1 5 .u8 [2, (n : Int)] (by simp)
          have R1 := HL.out.below ((Below.refl _ w1).alloc (Nat.le_refl _) (.cells #[.int .u8 2, .int .u8 n] 5))
          have HL1 := Lib.hid L1; have HL2 := Lib.hid L2; have HL3 := Lib.hid L3; have HO1 := Lib.hid O1; have HR1 := Lib.hid R1
          clear L1 L2 L3 O1 R1
          go_wp2_with (at_builtin; refine app_u8 (B := w1.heap.size) rfl (.tmp 33) (.tmp 34) rfl _ _ [2, (n : Int)] (x' :: r) rfl rfl HO1.out HR1.out HL2.out HL3.out ?_; intro v1 w2 hv1 hb3 _ _)
          go_ret
          have hx := HX.out
          have hbd := HBODY.out
          rw [if_neg (by omega)] at hbd
          refine ⟨v1, rfl, ?_, hb2.trans (((Below.refl _ _).alloc (Nat.le_refl _) _).trans hb3 |>.mono hb2.size)⟩
          have hn := HN.out
          unfold derI; rw [← HBEQ.out]
          rw [hbd, ← hn]
          exact hv1.mono hb2.size

set_option maxRecDepth 100000 in
set_option maxHeartbeats 1000000 in
theorem encode_any (a0 a1 a2 a3 b0 b1 b2 b3 : Int) (w : World) :
    Calls Try.prog 9 #[.agg #[.int .u64 a0, .int .u64 a1, .int .u64 a2, .int .u64 a3], .agg #[.int .u64 b0, .int .u64 b1, .int .u64 b2, .int .u64 b3]] w
      (RetB w (derE (leB [a0, a1, a2, a3]).reverse (leB [b0, b1, b2, b3]).reverse)) := by
  obtain ⟨l1, hl1⟩ : ∃ l, l = derI (leB [a0, a1, a2, a3]).reverse := ⟨_, rfl⟩
  obtain ⟨l2, hl2⟩ : ∃ l, l = derI (leB [b0, b1, b2, b3]).reverse := ⟨_, rfl⟩
  have n1 : l1.length ≤ 35 := by
    have := (pBody_length (leB [a0, a1, a2, a3]).reverse (by intro h; have := congrArg List.length h; simp [leB_length] at this)).2
    rw [hl1, derI]; simp [leB_length] at this ⊢; omega
  have n0 : 0 < l1.length := by rw [hl1, derI]; simp
  have n2 : l2.length ≤ 35 := by
    have := (pBody_length (leB [b0, b1, b2, b3]).reverse (by intro h; have := congrArg List.length h; simp [leB_length] at this)).2
    rw [hl2, derI]; simp [leB_length] at this ⊢; omega
  have k1 := fun W => integer_any a0 a1 a2 a3 W
  have k2 := fun W => integer_any b0 b1 b2 b3 W
  rw [← hl1] at k1
  rw [← hl2] at k2
  have K1 := Lib.hid k1; have K2 := Lib.hid k2
  rw [show derE (leB [a0, a1, a2, a3]).reverse (leB [b0, b1, b2, b3]).reverse = 48 :: ((l1 ++ l2).length : Int) :: (l1 ++ l2) by rw [hl1, hl2]; rfl]
  clear hl1 hl2 k1 k2
  go_enter Try.func9, Try.ntmps9
  go_wp2
  go_region_held3 (fun w' => w'.cell? ⟨w.heap.size, 0, none⟩ = some (.int .u64 a0) ∧ w'.cell? ⟨w.heap.size, 1, none⟩ = some (.int .u64 a1) ∧ w'.cell? ⟨w.heap.size, 2, none⟩ = some (.int .u64 a2) ∧ w'.cell? ⟨w.heap.size, 3, none⟩ = some (.int .u64 a3) ∧
      w'.cell? ⟨w.heap.size + 1, 0, none⟩ = some (.int .u64 b0) ∧ w'.cell? ⟨w.heap.size + 1, 1, none⟩ = some (.int .u64 b1) ∧ w'.cell? ⟨w.heap.size + 1, 2, none⟩ = some (.int .u64 b2) ∧ w'.cell? ⟨w.heap.size + 1, 3, none⟩ = some (.int .u64 b3))
    (go_keep)
    (first
      | (refine step_app_u8 (B := w.heap.size + 2) (by rfl) (.tmp 7) (.tmp 9) (by rfl) _ _ l1 l2 (by rfl) (by rfl) hv1'' hv2' (by omega) hz2 ?_; intro v3 w3 hv3 hb3 _ _; have hc3a := fun o => hb3.cell (p := ⟨w.heap.size, o, none⟩) (show w.heap.size < w.heap.size + 2 by omega); have hc3b := fun o => hb3.cell (p := ⟨w.heap.size + 1, o, none⟩) (show w.heap.size + 1 < w.heap.size + 2 by omega))
      | (go_at_call 17; (with_reducible refine (K1.out _).mono ?_); rintro e w1 ⟨v1, rfl, hv1, hb1⟩; obtain ⟨hc1, -⟩ := bcell hb1; have hc1a := fun o => hc1 w.heap.size o (by simp; omega); have hc1b := fun o => hc1 (w.heap.size + 1) o (by simp); clear hc1; have hv1' := hv1.mono (B' := w.heap.size + 2) (by simp); have bb1 : Below w.heap.size w w1 := ((((Below.refl _ _).alloc (Nat.le_refl _) _).alloc (by simp) _).drew).trans (hb1.mono (by simp; omega)))
      | (go_at_call 17; (with_reducible refine (K2.out _).mono ?_); rintro e w2 ⟨v2, rfl, hv2, hb2⟩; obtain ⟨hc2, -⟩ := bcell hb2; have hz := hb1.size; simp at hz; have hc2a := fun o => hc2 w.heap.size o (by omega); have hc2b := fun o => hc2 (w.heap.size + 1) o (by omega); clear hc2; have hv1'' := hv1'.below hb2; have hv2' := hv2.ri; have bb2 := bb1.trans (hb2.mono bb1.size); have hz2 : w.heap.size + 2 ≤ w2.heap.size := by have := hb2.size; omega))
  have bb3 := bb2.trans (hb3.mono (by omega))
  have HV := Lib.hid hv3; clear hv3 hv2 hv2' hv1 hv1' hv1'' hc3a hc3b hc2a hc2b hc1a hc1b
  obtain ⟨n, hn⟩ : ∃ n, n = (l1 ++ l2).length := ⟨_, rfl⟩
  have n3 : n ≤ 70 := by rw [hn, List.length_append]; omega
  have n4 : 0 < n := by rw [hn, List.length_append]; omega
  obtain ⟨g, cap, rfl, -, -⟩ := HV.out.form hn.symm n4
  have O1 := OI.lit w3 5 .u8 [48, (n : Int)] (by simp)
  have R1 := HV.out.ri.below ((Below.refl _ w3).alloc (Nat.le_refl _) (.cells #[.int .u8 48, .int .u8 n] 5))
  have L2 : [48, (n : Int)].length + (l1 ++ l2).length ≤ 140737488355328 := by rw [← hn]; simp; omega
  have HN := Lib.hid hn; have HO1 := Lib.hid O1; have HR1 := Lib.hid R1; have HL2 := Lib.hid L2
  clear hn O1 R1 L2
  go_wp2_with (at_builtin; refine app_u8 (B := w3.heap.size) rfl (.tmp 14) (.tmp 15) rfl _ _ [48, (n : Int)] (l1 ++ l2) rfl rfl HO1.out HR1.out HL2.out (by simp) ?_; intro v4 w4 hv4 hb4 _ _)
  go_ret
  refine ⟨v4, rfl, ?_, bb3.trans ((((Below.refl _ _).alloc (Nat.le_refl _) _).trans hb4).mono bb3.size)⟩
  have h := hv4.mono bb3.size
  rw [HN.out] at h
  exact h
end Go.Proofs.Yteicdkknciljhaa
