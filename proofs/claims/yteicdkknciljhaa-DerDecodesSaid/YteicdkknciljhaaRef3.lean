/- Contracts of the references' codec. -/
import Derived.Test.YteicdkknciljhaaCodec
namespace Go.Proofs.Yteicdkknciljhaa
open Go.RowKit Go.Chr

def RetBool (w : World) (b : Bool) (e : Ending) (w' : World) : Prop := e = .returned (.bool b) ∧ Below w.heap.size w w'
def RetInt (w : World) (k : IntKind) (x : Int) (e : Ending) (w' : World) : Prop := e = .returned (.int k x) ∧ Below w.heap.size w w'

theorem turned_step {l : List Int} {k : Nat} {x : Int} (h : l[k]? = some x) : (l.drop (k + 1)).reverse ++ [x] = (l.drop k).reverse := by
  obtain ⟨hk, rfl⟩ := List.getElem?_eq_some_iff.1 h
  rw [List.drop_eq_getElem_cons hk, List.reverse_cons]

set_option maxHeartbeats 1000000 in
theorem turned_any (u : Value) (l : List Int) (w : World) (hu : RI w .u8 u l) (hlen : l.length ≤ 1000000000) :
    Calls Try.prog 28 #[u] w (RetB w l.reverse) := by
  have hu' := hu
  obtain ⟨A, c, rfl, hc, hr⟩ := hu
  go_enter Try.func28, Try.ntmps28
  go_wp2
  go_loopw [3, 4] (fun v i wr => ∃ (k : Nat), k ≤ l.length ∧ i = .int .i64 ((k : Int) - 1) ∧ OI wr w.heap.size 5 .u8 v (l.drop k).reverse ∧ Below w.heap.size w wr) (fun _ i _ => (intOf i + 1).toNat)
  case atStart => exact ⟨l.length, Nat.le_refl _, rfl, by rw [List.drop_length]; exact OI.nil _ _ _ _, Below.refl _ _⟩
  case round =>
    obtain ⟨k, hk, rfl, hv, hB⟩ := hrel
    rcases k with _ | k
    · go_wp2
      go_ret
      exact ⟨_, rfl, hv, hB⟩
    · obtain ⟨-, ad, x, rfl, hx, hcell⟩ := (hu'.below hB).at_ (i := k) (by omega)
      have e : ((k + 1 : Nat) : Int) - 1 = k := by omega
      rw [e]; clear e
      have hkl : (k : Int) < l.length := by omega
      have HX := Lib.hid hx; clear hx
      go_wp2_with (at_builtin; refine app_u8 (B := w.heap.size) rfl (.tmp 12) (.tmp 17) rfl _ _ _ [x] rfl rfl (OI.below hv ((Below.refl _ _).alloc (Nat.le_refl _) _)) (RI.one _ _ _ _) (by simp; omega) (by have := hB.size; simp; omega) ?_; intro v1 w1 hv1 hb1 _ _)
      go_roundw
      case rel =>
        refine ⟨k, by omega, rfl, ?_, (hB.alloc hB.size _).trans hb1⟩
        rw [← turned_step HX.out]; exact hv1
      case measure => simp [intOf]
set_option maxRecDepth 100000 in
set_option maxHeartbeats 1000000 in
theorem eight_any (u : Value) (l : List Int) (w : World) (hu : RI w .u8 u l) (hb : ∀ x ∈ l, 0 ≤ x ∧ x < 256) (hlen : l.length = 8) :
    Calls Try.prog 31 #[u] w (fun e w' => e = .returned (.int .u64 (lt8 (fun i => l.getD i 0) 8)) ∧ w = w') := by
  have hu' := hu
  obtain ⟨A, c, rfl, hc, hr⟩ := hu
  have HL := Lib.hid hlen; clear hlen
  go_enter Try.func31, Try.ntmps31
  go_wp2
  go_loop [3, 4] (fun x i => ∃ (k : Nat), k ≤ 8 ∧ i = .int .i64 ((k : Int) - 1) ∧ x = .int .u64 (up8 (fun i => l.getD i 0) k)) (fun _ i => (intOf i + 1).toNat)
  case atStart => exact ⟨8, Nat.le_refl _, rfl, rfl⟩
  case round =>
    obtain ⟨k, hk, rfl, rfl⟩ := hrel
    rcases k with _ | k
    · go_wp2
      go_ret
      exact ⟨rfl, rfl⟩
    · obtain ⟨-, ad, x, rfl, hx, hcell⟩ := hu'.at_ (i := k) (by rw [HL.out]; omega)
      have e : ((k + 1 : Nat) : Int) - 1 = k := by omega
      rw [e]; clear e
      have hkl : (k : Int) < l.length := by rw [HL.out]; omega
      have hs := up8_step (fun i => l.getD i 0) (i := k) (by omega)
      have hbd := up8_bd (fun i => getD_bd hb i) (k + 1)
      have hx1 := (hb x (List.mem_of_getElem? hx)).1
      have hx2 := (hb x (List.mem_of_getElem? hx)).2
      have hgx : l.getD k 0 = x := by simp [List.getD, hx]
      have hpw : (256 : Int) ^ (8 - (k + 1)) ≤ 256 ^ 7 := by
        have : (256 : Nat) ^ (8 - (k + 1)) ≤ 256 ^ 7 := Nat.pow_le_pow_right (by decide) (by omega)
        exact_mod_cast this
      obtain ⟨y, hy⟩ : ∃ y, y = up8 (fun i => l.getD i 0) (k + 1) := ⟨_, rfl⟩
      rw [← hy] at hs hbd ⊢
      simp only [hgx] at hs
      have hy0 : 0 ≤ y := hbd.1
      have HB := Lib.hid (show y < 2 ^ 56 from Int.lt_of_lt_of_le hbd.2 hpw)
      have HX := Lib.hid hx; clear hx
      have HS := Lib.hid hs; clear hs
      clear hbd hpw hgx hy
      go_wp2
      go_round
      case rel =>
        refine ⟨k, by omega, rfl, ?_⟩
        have := HB.out
        rw [HS.out, u64_in (x := y * 256) (by omega) (by simp at this ⊢; omega), u64_in (by omega) (by simp at this ⊢; omega)]
        congr 1; omega
      case measure => simp [intOf]
set_option maxRecDepth 100000 in
set_option maxHeartbeats 1000000 in
theorem refPutLittle_any (a0 a1 a2 a3 : Int) (w : World) (h : ∀ x ∈ [a0, a1, a2, a3], 0 ≤ x ∧ x < 2 ^ 64) :
    Calls Try.prog 32 #[.agg #[.int .u64 a0, .int .u64 a1, .int .u64 a2, .int .u64 a3]] w (RetB w (leB [a0, a1, a2, a3])) := by
  have H4 := Lib.hid h; clear h
  go_enter Try.func32, Try.ntmps32
  go_wp2
  go_loopw [3, 4] (fun v i wr => ∃ (k : Nat), k ≤ 4 ∧ i = .int .i64 k ∧ OI wr (w.heap.size + 1) 5 .u8 v ((leB [a0, a1, a2, a3]).take (8 * k)) ∧ IB wr w.heap.size 26 .u64 [a0, a1, a2, a3] ∧ Below w.heap.size w wr) (fun _ i _ => 4 - (intOf i).toNat)
  case atStart => exact ⟨0, by omega, rfl, OI.nil _ _ _ _, IB.new w 26 .u64 [a0, a1, a2, a3], (Below.refl _ _).alloc (Nat.le_refl _) _⟩
  case round =>
    obtain ⟨i, hi, rfl, hv, hb0, hB⟩ := hrel
    by_cases hlt : i < 4
    · have q1 := hb0.cell (i := i) (by simp; omega)
      obtain ⟨z, hz⟩ : ∃ z, z = [a0, a1, a2, a3].getD i 0 := ⟨_, rfl⟩
      rw [← hz] at q1
      have hz0 : 0 ≤ z := by
        rw [hz]; simp only [List.getD]
        cases e : ([a0, a1, a2, a3] : List Int)[i]? with
        | none => simp
        | some y => exact (H4.out y (List.mem_of_getElem? e)).1
      have hz1 : z < 2 ^ 64 := by
        rw [hz]; simp only [List.getD]
        cases e : ([a0, a1, a2, a3] : List Int)[i]? with
        | none => simp
        | some y => exact (H4.out y (List.mem_of_getElem? e)).2
      have HZ1 := Lib.hid hz1; clear hz1
      have HZ := Lib.hid hz; clear hz
      have H0 := Lib.hid hb0; clear hb0
      have hd : decide ((i : Int) < 4) = true := by simp; omega
      go_wp2
      obtain ⟨wo, rfl⟩ : ∃ wo : World, wo = wr := ⟨_, rfl⟩
      go_loopw [3, 5, 6] (fun v x k wr => ∃ (q : Nat), q ≤ 8 ∧ k = .int .i64 q ∧ x = .int .u64 (z / 2 ^ (8 * q)) ∧ OI wr (w.heap.size + 1) 5 .u8 v ((leB [a0, a1, a2, a3]).take (8 * i + q)) ∧ IB wr w.heap.size 26 .u64 [a0, a1, a2, a3] ∧ Below w.heap.size w wr) (fun _ _ k _ => 8 - (intOf k).toNat)
      case atStart => exact ⟨0, by omega, rfl, by simp, hv, H0.out, hB⟩
      case round =>
        obtain ⟨q, hq, rfl, rfl, hv2, hb2, hB2⟩ := hrel
        by_cases hlq : q < 8
        · obtain ⟨y, hy⟩ : ∃ y, y = z / 2 ^ (8 * q) := ⟨_, rfl⟩
          rw [← hy]
          have hy0 : 0 ≤ y := by rw [hy]; exact Int.ediv_nonneg hz0 (Int.pow_nonneg (by decide))
          have HY := Lib.hid hy; clear hy
          have H2 := Lib.hid hb2; clear hb2
          go_wp2_with (at_builtin; refine app_u8 (B := w.heap.size + 1) rfl (.tmp 18) (.tmp 22) rfl _ _ _ [y % 256] rfl rfl (OI.below hv2 ((Below.refl _ _).alloc (Nat.le_refl _) _)) (RI.one _ _ _ _) (by simp; omega) (by have := H2.out.lt; simp; omega) ?_; intro v1 w1 hv1 hb1 _ _)
          go_roundw
          case rel =>
            have hb3 : IB w1 w.heap.size 26 .u64 [a0, a1, a2, a3] := (H2.out.alloc _).below hb1 (by omega)
            have e := leB_take [a0, a1, a2, a3] (i := i) (k := q) hlq hlt
            rw [← HZ.out, ← HY.out] at e
            refine ⟨q + 1, by omega, by go_num, ?_, by rw [← e]; exact hv1, hb3, (hB2.alloc hB2.size _).trans (hb1.mono (by omega))⟩
            have hyz : y ≤ z := by rw [HY.out]; exact Int.ediv_le_self _ hz0
            have hz1 := HZ1.out
            have hq0 : (0 : Int) ≤ y / 256 := Int.ediv_nonneg hy0 (by decide)
            have hq1 : y / 256 ≤ y := Int.ediv_le_self _ hy0
            rw [Int.tdiv_eq_ediv_of_nonneg hy0, u64_in hq0 (by omega), HY.out, Int.ediv_ediv_of_nonneg (Int.pow_nonneg (by decide)), show 8 * (q + 1) = 8 * q + 8 by omega, Int.pow_add]
            rfl
          case measure => simp [intOf]; omega
        · have hq8 : q = 8 := by omega
          subst hq8
          have hd2 : decide (((8 : Nat) : Int) < 8) = false := by decide
          have H2 := Lib.hid hb2; clear hb2
          go_wp2
          go_roundw
          case rel => exact ⟨i + 1, by omega, by go_num, by rw [show 8 * (i + 1) = 8 * i + 8 by omega]; exact hv2, H2.out, hB2⟩
          case measure => simp [intOf]; omega
    · have hi4 : i = 4 := by omega
      subst hi4
      have H0 := Lib.hid hb0; clear hb0
      go_wp2
      go_ret
      refine ⟨_, rfl, ?_, hB⟩
      have : (leB [a0, a1, a2, a3]).take (8 * 4) = leB [a0, a1, a2, a3] := List.take_of_length_le (by rw [leB_length]; omega)
      rw [this] at hv
      exact hv.mono (by omega)

set_option maxHeartbeats 400000 in
theorem refPutBig_any (a0 a1 a2 a3 : Int) (w : World) (h : ∀ x ∈ [a0, a1, a2, a3], 0 ≤ x ∧ x < 2 ^ 64) :
    Calls Try.prog 29 #[.agg #[.int .u64 a0, .int .u64 a1, .int .u64 a2, .int .u64 a3]] w (RetB w (leB [a0, a1, a2, a3]).reverse) := by
  have H4 := Lib.hid h; clear h
  go_enter Try.func29, Try.ntmps29
  go_wp2_with fail
  refine (refPutLittle_any a0 a1 a2 a3 _ H4.out).mono ?_
  rintro e w1 ⟨v, rfl, hv, hb⟩
  go_wp2_with fail
  refine (turned_any v _ w1 hv.ri (by rw [leB_length]; omega)).mono ?_
  rintro e w2 ⟨v2, rfl, hv2, hb2⟩
  go_wp2
  go_ret
  have hs := hb.size
  simp at hs
  exact ⟨v2, rfl, hv2.mono (by omega), ((Below.refl _ _).alloc (Nat.le_refl _) _).trans ((hb.mono (by simp)).trans (hb2.mono (by omega)))⟩

theorem same_step {l m : List Int} {k : Nat} {x y : Int} (h : l.take k = m.take k) (hx : l[k]? = some x) (hy : m[k]? = some y) (e : x = y) : l.take (k + 1) = m.take (k + 1) := by
  obtain ⟨h1, rfl⟩ := List.getElem?_eq_some_iff.1 hx
  obtain ⟨h2, rfl⟩ := List.getElem?_eq_some_iff.1 hy
  rw [List.take_succ_eq_append_getElem h1, List.take_succ_eq_append_getElem h2, h, e]

set_option maxRecDepth 100000 in
set_option maxHeartbeats 1000000 in
theorem refSame_any (u v : Value) (l m : List Int) (w : World) (hu : RI w .u8 u l) (hv : RI w .u8 v m) (hl : l.length ≤ 1000000000) (hm : m.length ≤ 1000000000) :
    Calls Try.prog 10 #[u, v] w (RetBool w (decide (l = m))) := by
  have hu' := hu
  have hv' := hv
  obtain ⟨A, c, rfl, hc, hr⟩ := hu
  obtain ⟨A2, c2, rfl, hc2, hr2⟩ := hv
  by_cases hlm : l.length = m.length
  · have hn : ((l.length : Int) != m.length) = false := by simp [hlm]
    have HLM := Lib.hid hlm; clear hlm
    go_enter Try.func10, Try.ntmps10
    go_wp2
    go_loopw [5] (fun i wr => ∃ (k : Nat), k ≤ l.length ∧ i = .int .i64 k ∧ l.take k = m.take k ∧ Below w.heap.size w wr) (fun i _ => l.length - (intOf i).toNat)
    case atStart => exact ⟨0, by omega, rfl, by simp, Below.refl _ _⟩
    case round =>
      obtain ⟨k, hk, rfl, ht, hB⟩ := hrel
      by_cases hlt : k < l.length
      · obtain ⟨-, ad, x, rfl, hx, hcell⟩ := (hu'.below hB).at_ (i := k) hlt
        obtain ⟨-, ad2, y, rfl, hy, hcell2⟩ := (hv'.below hB).at_ (i := k) (by rw [← HLM.out]; exact hlt)
        have hkl : (k : Int) < l.length := by omega
        have hkm : (k : Int) < m.length := by rw [← HLM.out]; omega
        have HT := Lib.hid ht; clear ht
        have HX := Lib.hid hx; clear hx
        have HY := Lib.hid hy; clear hy
        by_cases hxy : x = y
        · have hd : (x != y) = false := by simp [hxy]
          have HXY := Lib.hid hxy; clear hxy
          go_wp2
          go_quiet (fail)
          go_wp2
          go_roundw
          case rel => exact ⟨k + 1, by omega, by go_num, same_step HT.out HX.out HY.out HXY.out, ⟨hB.os, hB.tape, hB.output, hB.size, hB.block⟩⟩
          case measure => simp [intOf]; omega
        · have hd : (x != y) = true := by simp [hxy]
          have hne : decide (l = m) = false := by
            simp; rintro rfl
            have := HX.out.symm.trans HY.out
            exact hxy (by injection this)
          have HN := Lib.hid hne; clear hne
          clear hxy
          go_wp2
          go_quiet (fail)
          go_wp2
          go_ret
          exact ⟨by rw [HN.out]; rfl, ⟨hB.os, hB.tape, hB.output, hB.size, hB.block⟩⟩
      · have hk2 : k = l.length := by omega
        have hfin : decide (l = m) = true := by
          subst hk2
          rw [List.take_of_length_le (Nat.le_refl _), List.take_of_length_le (by rw [← HLM.out]; exact Nat.le_refl _)] at ht
          simpa using ht
        have HF := Lib.hid hfin; clear hfin ht hk2
        go_wp2
        go_ret
        exact ⟨by rw [HF.out]; rfl, hB⟩
  · have hn : ((l.length : Int) != m.length) = true := by simp; omega
    have hfin : decide (l = m) = false := by simp; rintro rfl; exact hlm rfl
    have HF := Lib.hid hfin; clear hfin hlm
    go_enter Try.func10, Try.ntmps10
    go_wp2
    go_ret
    exact ⟨by rw [HF.out]; rfl, Below.refl _ _⟩
set_option maxRecDepth 100000 in
set_option maxHeartbeats 1000000 in
theorem refLittle_any (u : Value) (l : List Int) (w : World) (hu : RI w .u8 u l) (hb : ∀ x ∈ l, 0 ≤ x ∧ x < 256) (hlen : l.length = 32) :
    Calls Try.prog 27 #[u] w (RetN w (leN l) true) := by
  have hu' := hu
  obtain ⟨A, c, rfl, hc, hr⟩ := hu
  obtain ⟨-, ad, x, rfl, -, -⟩ := hu'.at_ (i := 0) (by omega)
  rw [hlen] at hc hu' hr ⊢
  have hn : ((32 : Int) != 32) = false := rfl
  clear hr
  have cut : ∀ i, i % 8 = 0 → i + 8 ≤ 32 → ∀ W, Below w.heap.size w W → Calls Try.prog 31 #[.slice (if c = i then some ad else some (ad.add i)) 8 (c - i)] W
      (fun e w' => e = .returned (.int .u64 (limbTo l (i / 8) 32)) ∧ W = w') := by
    intro i hi8 hi W hB
    have h := (hu'.below hB).slice_ (i := i) (j := i + 8) (by omega) (by omega)
    rw [show i + 8 - i = 8 by omega] at h
    have hl : ((l.drop i).take 8).length = 8 := by simp; omega
    have := eight_any _ _ W h (fun x hx => hb x (List.mem_of_mem_drop (List.mem_of_mem_take hx))) hl
    have e : lt8 (fun q => ((l.drop i).take 8).getD q 0) 8 = limbTo l (i / 8) 32 := by
      unfold limbTo
      rw [show min 8 (32 - 8 * (i / 8)) = 8 by omega, show 8 * (i / 8) = i by omega]
      refine lt8_congr fun q hq => ?_
      simp [List.getD, List.getElem?_take, hq]
    rw [e] at this
    exact this
  have e1 : c ≠ 8 := by omega
  have e2 : c ≠ 16 := by omega
  have e3 : c ≠ 24 := by omega
  have c0 := cut 0 (by omega) (by omega)
  have c1 := cut 8 (by omega) (by omega)
  have c2 := cut 16 (by omega) (by omega)
  have c3 := cut 24 (by omega) (by omega)
  have e0 : c ≠ 0 := by omega
  rw [if_neg e0, show ad.add 0 = ad from rfl, Nat.sub_zero] at c0
  rw [if_neg e1, show ad.add 8 = ⟨ad.block, ad.off + 8, none⟩ from rfl] at c1
  rw [if_neg e2, show ad.add 16 = ⟨ad.block, ad.off + 16, none⟩ from rfl] at c2
  rw [if_neg e3, show ad.add 24 = ⟨ad.block, ad.off + 24, none⟩ from rfl] at c3
  obtain ⟨x0, x1, x2, x3, hL⟩ : ∃ x0 x1 x2 x3, leN l = [x0, x1, x2, x3] := ⟨_, _, _, _, rfl⟩
  have hL' := hL
  simp only [leN, leTo, List.cons.injEq, and_true] at hL'
  obtain ⟨h0, h1, h2, h3⟩ := hL'
  simp only [Nat.reduceDiv, h0, h1, h2, h3] at c0 c1 c2 c3
  rw [hL]
  have C0 := Lib.hid c0; have C1 := Lib.hid c1; have C2 := Lib.hid c2; have C3 := Lib.hid c3
  clear cut c0 c1 c2 c3 hu' hb hlen h0 h1 h2 h3 hL
  go_enter Try.func27, Try.ntmps27
  go_wp2
  refine wp_region_still_tail 13 (by kernel_rfl) (by kernel_rfl) ?_
  have hb1 : Below w.heap.size w (w.alloc (.cells #[.int .u64 0, .int .u64 0, .int .u64 0, .int .u64 0] 26)).drew := ((Below.refl _ _).alloc (Nat.le_refl _) _).drew
  have hb0 : Blk (w.alloc (.cells #[.int .u64 0, .int .u64 0, .int .u64 0, .int .u64 0] 26)).drew w.heap.size 26 #[.int .u64 0, .int .u64 0, .int .u64 0, .int .u64 0] := (Blk.new w 26 _).drew
  change wpStill _ _ (w.alloc (.cells #[.int .u64 0, .int .u64 0, .int .u64 0, .int .u64 0] 26)).drew (fun a' => wpList _ _ _ _ a' (w.alloc (.cells #[.int .u64 0, .int .u64 0, .int .u64 0, .int .u64 0] 26)).drew) _ _
  generalize (w.alloc (.cells #[.int .u64 0, .int .u64 0, .int .u64 0, .int .u64 0] 26)).drew = W at hb0 hb1 ⊢
  have d0 := C0.out _ hb1; have d1 := C1.out _ hb1; have d2 := C2.out _ hb1; have d3 := C3.out _ hb1
  have D0 := Lib.hid d0; have D1 := Lib.hid d1; have D2 := Lib.hid d2; have D3 := Lib.hid d3
  clear d0 d1 d2 d3 C0 C1 C2 C3
  have HB1 := Lib.hid hb1; have HB0 := Lib.hid hb0
  clear hb0 hb1
  simp only [List.take_succ_cons, List.take_zero, List.drop_succ_cons, List.drop_zero]
  have i1 : (8 : Int) ≤ c := by omega
  have i2 : (16 : Int) ≤ c := by omega
  have i3 : (24 : Int) ≤ c := by omega
  have i4 : (32 : Int) ≤ c := by omega
  repeat still_step
  refine wpStill_step (fun K hK => ?_)
  go_simp
  refine ⟨_, D0.out.mono (fun _ _ h => ⟨h.1, h.2.symm⟩), hK _ ?_⟩
  clear hK K
  repeat still_step
  refine wpStill_step (fun K hK => ?_)
  go_simp
  refine ⟨_, D1.out.mono (fun _ _ h => ⟨h.1, h.2.symm⟩), hK _ ?_⟩
  clear hK K
  repeat still_step
  refine wpStill_step (fun K hK => ?_)
  go_simp
  refine ⟨_, D2.out.mono (fun _ _ h => ⟨h.1, h.2.symm⟩), hK _ ?_⟩
  clear hK K
  repeat still_step
  refine wpStill_step (fun K hK => ?_)
  go_simp
  refine ⟨_, D3.out.mono (fun _ _ h => ⟨h.1, h.2.symm⟩), hK _ ?_⟩
  clear hK K
  repeat still_step
  refine wpStill_nil ?_
  have r2 := HB0.out.cell
  have r3 := HB0.out.frozen
  go_wp2
  have hfin := (((HB0.out.set_ 0 (.int .u64 x0)).set_ 1 (.int .u64 x1)).set_ 2 (.int .u64 x2)).set_ 3 (.int .u64 x3)
  refine bodyPost_ret (results_blk_tmp (d := .array 4 24) Try.results27 rfl hfin rfl Try.underlying26 (by kernel_rfl)) rfl ⟨rfl, ?_⟩
  exact (((HB1.out.setCell (by simp) _).setCell (by simp) _).setCell (by simp) _).setCell (by simp) _

set_option maxRecDepth 100000 in
set_option maxHeartbeats 1000000 in
theorem refBig_any (u : Value) (l : List Int) (w : World) (hu : RI w .u8 u l) (hb : ∀ x ∈ l, 0 ≤ x ∧ x < 256) (hlen : l.length = 32) :
    Calls Try.prog 20 #[u] w (RetN w (leN l.reverse) true) := by
  have HL := Lib.hid hlen; clear hlen
  go_enter Try.func20, Try.ntmps20
  go_wp2_with fail
  refine (turned_any u l _ (hu.below ((Below.refl _ _).alloc (Nat.le_refl _) _)) (by rw [HL.out]; omega)).mono ?_
  rintro e w1 ⟨v, rfl, hv, hb1⟩
  go_wp2_with fail
  refine (refLittle_any v _ w1 hv.ri (fun x hx => hb x (List.mem_reverse.1 hx)) (by simp [HL.out])).mono ?_
  rintro e w3 ⟨rfl, hb3⟩
  have hb4 := hb1.trans (hb3.mono hb1.size)
  have H0 := ((Blk.new w 26 #[.int .u64 0, .int .u64 0, .int .u64 0, .int .u64 0]).below hb4 (by simp))
  have r2 := H0.cell
  have r3 := H0.frozen
  have H := Lib.hid H0; clear H0
  obtain ⟨x0, x1, x2, x3, hL⟩ : ∃ x0 x1 x2 x3, leN l.reverse = [x0, x1, x2, x3] := ⟨_, _, _, _, rfl⟩
  simp only [hL, List.map_cons, List.map_nil]
  have HX := Lib.hid hL; clear hL
  go_wp2
  have hfin := (((H.out.set_ 0 (.int .u64 x0)).set_ 1 (.int .u64 x1)).set_ 2 (.int .u64 x2)).set_ 3 (.int .u64 x3)
  refine bodyPost_ret (results_blk_tmp (d := .array 4 24) Try.results20 rfl hfin rfl Try.underlying26 (by kernel_rfl)) rfl ⟨by rw [HX.out]; rfl, ?_⟩
  have hB := ((Below.refl w.heap.size w).alloc (Nat.le_refl _) (.cells #[.int .u64 0, .int .u64 0, .int .u64 0, .int .u64 0] 26)).trans (hb4.mono (by simp))
  exact (((hB.setCell (by simp) _).setCell (by simp) _).setCell (by simp) _).setCell (by simp) _
end Go.Proofs.Yteicdkknciljhaa
