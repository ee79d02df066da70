import Derived.Test.YtdcganigfihkjaaGreatDoorM9
import Derived.Lib.AppendZerosOnto
import Derived.Defers
import Derived.Recover
/- Contracts of the references' codec. -/
namespace Go.Proofs.YtdcganigfihkjaaGreatDoor
open Go.RowKit Go.Chr
def RetBool (w : World) (b : Bool) (e : Ending) (w' : World) : Prop := e = .returned (.bool b) ∧ Below w.heap.size w w'
theorem turned_step {l : List Int} {k : Nat} {x : Int} (h : l[k]? = some x) : (l.drop (k + 1)).reverse ++ [x] = (l.drop k).reverse := by
 obtain ⟨hk, rfl⟩ := List.getElem?_eq_some_iff.1 h
 rw [List.drop_eq_getElem_cons hk, List.reverse_cons]
set_option maxHeartbeats 1000000 in
theorem turned_any (u : Value) (l : List Int) (w : World) (hu : RI w .u8 u l) (hlen : l.length ≤ 1000000000) :
  Calls Tryz.prog 75 #[u] w (RetB w l.reverse) := by
 have hu' := hu
 obtain ⟨A, c, rfl, hc, hr⟩ := hu
 go_enter Tryz.func75, Tryz.ntmps75
 go_wp2
 go_loopw [3, 4] (fun v i wr => ∃ (k : Nat), k ≤ l.length ∧ i = .int .i64 ((k : Int) - 1) ∧ OI wr w.heap.size 5 .u8 v (l.drop k).reverse ∧ Below w.heap.size w wr) (fun _ i _ => (intOf i + 1).toNat)
 case atStart => exact ⟨l.length, Nat.le_refl _, rfl, by rw [List.drop_length]; exact OI.nil _ _ _ _, Below.refl _ _⟩
 case round =>
  obtain ⟨k, hk, rfl, hv, hB⟩ := hrel
  rcases k with _ | k
  ·go_wp2
   go_ret
   exact ⟨_, rfl, hv, hB⟩
  ·obtain ⟨-, ad, x, rfl, hx, hcell⟩ := (hu'.below hB).at_ (i := k) (by omega)
   have e : ((k + 1 : Nat) : Int) - 1 = k := by omega
   rw [e]; clear e
   have hkl : (k : Int) < l.length := by omega
   have HX := Lib.hid hx; clear hx
   go_wp2_with (at_builtin; refine app_u8 (B := w.heap.size) rfl (.tmp 12) (.tmp 17) rfl _ _ _ [x] rfl rfl (OI.below hv ((Below.refl _ _).alloc (Nat.le_refl _) _)) (RI.one _ _ _ _) (by simp; omega) (by have := hB.size; simp; omega) ?_; intro v1 w1 hv1 hb1 _ _)
   go_roundw
   case rel =>
    refine ⟨k, by omega, rfl, ?_, (hB.alloc hB.size _).trans hb1⟩
    rw [← turned_step HX.out]; exact hv1
   case measure => simp [intOf]
set_option maxRecDepth 100000 in
set_option maxHeartbeats 1000000 in
theorem eight_any (u : Value) (l : List Int) (w : World) (hu : RI w .u8 u l) (hb : ∀ x ∈ l, 0 ≤ x ∧ x < 256) (hlen : l.length = 8) :
  Calls Tryz.prog 111 #[u] w (fun e w' => e = .returned (.int .u64 (lt8 (fun i => l.getD i 0) 8)) ∧ w = w') := by
 have hu' := hu
 obtain ⟨A, c, rfl, hc, hr⟩ := hu
 have HL := Lib.hid hlen; clear hlen
 go_enter Tryz.func111, Tryz.ntmps111
 go_wp2
 go_loop [3, 4] (fun x i => ∃ (k : Nat), k ≤ 8 ∧ i = .int .i64 ((k : Int) - 1) ∧ x = .int .u64 (up8 (fun i => l.getD i 0) k)) (fun _ i => (intOf i + 1).toNat)
 case atStart => exact ⟨8, Nat.le_refl _, rfl, rfl⟩
 case round =>
  obtain ⟨k, hk, rfl, rfl⟩ := hrel
  rcases k with _ | k
  ·go_wp2
   go_ret
   exact ⟨rfl, rfl⟩
  ·obtain ⟨-, ad, x, rfl, hx, hcell⟩ := hu'.at_ (i := k) (by rw [HL.out]; omega)
   have e : ((k + 1 : Nat) : Int) - 1 = k := by omega
   rw [e]; clear e
   have hkl : (k : Int) < l.length := by rw [HL.out]; omega
   have hs := up8_step (fun i => l.getD i 0) (i := k) (by omega)
   have hbd := up8_bd (fun i => getD_bd hb i) (k + 1)
   have hx1 := (hb x (List.mem_of_getElem? hx)).1
   have hx2 := (hb x (List.mem_of_getElem? hx)).2
   have hgx : l.getD k 0 = x := by simp [List.getD, hx]
   have hpw : (256 : Int) ^ (8 - (k + 1)) ≤ 256 ^ 7 := by
    have : (256 : Nat) ^ (8 - (k + 1)) ≤ 256 ^ 7 := Nat.pow_le_pow_right (by decide) (by omega)
    exact_mod_cast this
   obtain ⟨y, hy⟩ : ∃ y, y = up8 (fun i => l.getD i 0) (k + 1) := ⟨_, rfl⟩
   rw [← hy] at hs hbd ⊢
   simp only [hgx] at hs
   have hy0 : 0 ≤ y := hbd.1
   have HB := Lib.hid (show y < 2 ^ 56 from Int.lt_of_lt_of_le hbd.2 hpw)
   have HX := Lib.hid hx; clear hx
   have HS := Lib.hid hs; clear hs
   clear hbd hpw hgx hy
   go_wp2
   go_round
   case rel =>
    refine ⟨k, by omega, rfl, ?_⟩
    have := HB.out
    rw [HS.out, u64_in (x := y * 256) (by omega) (by simp at this ⊢; omega), u64_in (by omega) (by simp at this ⊢; omega)]
    congr 1; omega
   case measure => simp [intOf]
set_option maxRecDepth 100000 in
set_option maxHeartbeats 1000000 in
theorem refPutLittle_any (a0 a1 a2 a3 : Int) (w : World) (h : ∀ x ∈ [a0, a1, a2, a3], 0 ≤ x ∧ x < 2 ^ 64) :
  Calls Tryz.prog 76 #[.agg #[.int .u64 a0, .int .u64 a1, .int .u64 a2, .int .u64 a3]] w (RetB w (leB [a0, a1, a2, a3])) := by
 have H4 := Lib.hid h; clear h
 go_enter Tryz.func76, Tryz.ntmps76
 go_wp2
 go_loopw [3, 4] (fun v i wr => ∃ (k : Nat), k ≤ 4 ∧ i = .int .i64 k ∧ OI wr (w.heap.size + 1) 5 .u8 v ((leB [a0, a1, a2, a3]).take (8 * k)) ∧ IB wr w.heap.size 27 .u64 [a0, a1, a2, a3] ∧ Below w.heap.size w wr) (fun _ i _ => 4 - (intOf i).toNat)
 case atStart => exact ⟨0, by omega, rfl, OI.nil _ _ _ _, IB.new w 27 .u64 [a0, a1, a2, a3], (Below.refl _ _).alloc (Nat.le_refl _) _⟩
 case round =>
  obtain ⟨i, hi, rfl, hv, hb0, hB⟩ := hrel
  by_cases hlt : i < 4
  ·have q1 := hb0.cell (i := i) (by simp; omega)
   obtain ⟨z, hz⟩ : ∃ z, z = [a0, a1, a2, a3].getD i 0 := ⟨_, rfl⟩
   rw [← hz] at q1
   have hz0 : 0 ≤ z := by
    rw [hz]; simp only [List.getD]
    cases e : ([a0, a1, a2, a3] : List Int)[i]? with
    | none => simp
    | some y => exact (H4.out y (List.mem_of_getElem? e)).1
   have hz1 : z < 2 ^ 64 := by
    rw [hz]; simp only [List.getD]
    cases e : ([a0, a1, a2, a3] : List Int)[i]? with
    | none => simp
    | some y => exact (H4.out y (List.mem_of_getElem? e)).2
   have HZ1 := Lib.hid hz1; clear hz1
   have HZ := Lib.hid hz; clear hz
   have H0 := Lib.hid hb0; clear hb0
   have hd : decide ((i : Int) < 4) = true := by simp; omega
   go_wp2
   obtain ⟨wo, rfl⟩ : ∃ wo : World, wo = wr := ⟨_, rfl⟩
   go_loopw [3, 5, 6] (fun v x k wr => ∃ (q : Nat), q ≤ 8 ∧ k = .int .i64 q ∧ x = .int .u64 (z / 2 ^ (8 * q)) ∧ OI wr (w.heap.size + 1) 5 .u8 v ((leB [a0, a1, a2, a3]).take (8 * i + q)) ∧ IB wr w.heap.size 27 .u64 [a0, a1, a2, a3] ∧ Below w.heap.size w wr) (fun _ _ k _ => 8 - (intOf k).toNat)
   case atStart => exact ⟨0, by omega, rfl, by simp, hv, H0.out, hB⟩
   case round =>
    obtain ⟨q, hq, rfl, rfl, hv2, hb2, hB2⟩ := hrel
    by_cases hlq : q < 8
    ·obtain ⟨y, hy⟩ : ∃ y, y = z / 2 ^ (8 * q) := ⟨_, rfl⟩
     rw [← hy]
     have hy0 : 0 ≤ y := by rw [hy]; exact Int.ediv_nonneg hz0 (Int.pow_nonneg (by decide))
     have HY := Lib.hid hy; clear hy
     have H2 := Lib.hid hb2; clear hb2
     go_wp2_with (at_builtin; refine app_u8 (B := w.heap.size + 1) rfl (.tmp 18) (.tmp 22) rfl _ _ _ [y % 256] rfl rfl (OI.below hv2 ((Below.refl _ _).alloc (Nat.le_refl _) _)) (RI.one _ _ _ _) (by simp; omega) (by have := H2.out.lt; simp; omega) ?_; intro v1 w1 hv1 hb1 _ _)
     go_roundw
     case rel =>
      have hb3 : IB w1 w.heap.size 27 .u64 [a0, a1, a2, a3] := (H2.out.alloc _).below hb1 (by omega)
      have e := leB_take [a0, a1, a2, a3] (i := i) (k := q) hlq hlt
      rw [← HZ.out, ← HY.out] at e
      refine ⟨q + 1, by omega, by go_num, ?_, by rw [← e]; exact hv1, hb3, (hB2.alloc hB2.size _).trans (hb1.mono (by omega))⟩
      have hyz : y ≤ z := by rw [HY.out]; exact Int.ediv_le_self _ hz0
      have hz1 := HZ1.out
      have hq0 : (0 : Int) ≤ y / 256 := Int.ediv_nonneg hy0 (by decide)
      have hq1 : y / 256 ≤ y := Int.ediv_le_self _ hy0
      rw [Int.tdiv_eq_ediv_of_nonneg hy0, u64_in hq0 (by omega), HY.out, Int.ediv_ediv_of_nonneg (Int.pow_nonneg (by decide)), show 8 * (q + 1) = 8 * q + 8 by omega, Int.pow_add]
      rfl
     case measure => simp [intOf]; omega
    ·have hq8 : q = 8 := by omega
     subst hq8
     have hd2 : decide (((8 : Nat) : Int) < 8) = false := by decide
     have H2 := Lib.hid hb2; clear hb2
     go_wp2
     go_roundw
     case rel => exact ⟨i + 1, by omega, by go_num, by rw [show 8 * (i + 1) = 8 * i + 8 by omega]; exact hv2, H2.out, hB2⟩
     case measure => simp [intOf]; omega
  ·have hi4 : i = 4 := by omega
   subst hi4
   have H0 := Lib.hid hb0; clear hb0
   go_wp2
   go_ret
   refine ⟨_, rfl, ?_, hB⟩
   have : (leB [a0, a1, a2, a3]).take (8 * 4) = leB [a0, a1, a2, a3] := List.take_of_length_le (by rw [leB_length]; omega)
   rw [this] at hv
   exact hv.mono (by omega)
set_option maxHeartbeats 400000 in
theorem refPutBig_any (a0 a1 a2 a3 : Int) (w : World) (h : ∀ x ∈ [a0, a1, a2, a3], 0 ≤ x ∧ x < 2 ^ 64) :
  Calls Tryz.prog 36 #[.agg #[.int .u64 a0, .int .u64 a1, .int .u64 a2, .int .u64 a3]] w (RetB w (leB [a0, a1, a2, a3]).reverse) := by
 have H4 := Lib.hid h; clear h
 go_enter Tryz.func36, Tryz.ntmps36
 go_wp2_with fail
 refine (refPutLittle_any a0 a1 a2 a3 _ H4.out).mono ?_
 rintro e w1 ⟨v, rfl, hv, hb⟩
 go_wp2_with fail
 refine (turned_any v _ w1 hv.ri (by rw [leB_length]; omega)).mono ?_
 rintro e w2 ⟨v2, rfl, hv2, hb2⟩
 go_wp2
 go_ret
 have hs := hb.size
 simp at hs
 exact ⟨v2, rfl, hv2.mono (by omega), ((Below.refl _ _).alloc (Nat.le_refl _) _).trans ((hb.mono (by simp)).trans (hb2.mono (by omega)))⟩
theorem same_step {l m : List Int} {k : Nat} {x y : Int} (h : l.take k = m.take k) (hx : l[k]? = some x) (hy : m[k]? = some y) (e : x = y) : l.take (k + 1) = m.take (k + 1) := by
 obtain ⟨h1, rfl⟩ := List.getElem?_eq_some_iff.1 hx
 obtain ⟨h2, rfl⟩ := List.getElem?_eq_some_iff.1 hy
 rw [List.take_succ_eq_append_getElem h1, List.take_succ_eq_append_getElem h2, h, e]
set_option maxRecDepth 100000 in
set_option maxHeartbeats 1000000 in
theorem refSame_any (u v : Value) (l m : List Int) (w : World) (hu : RI w .u8 u l) (hv : RI w .u8 v m) (hl : l.length ≤ 1000000000) (hm : m.length ≤ 1000000000) :
  Calls Tryz.prog 11 #[u, v] w (RetBool w (decide (l = m))) := by
 have hu' := hu
 have hv' := hv
 obtain ⟨A, c, rfl, hc, hr⟩ := hu
 obtain ⟨A2, c2, rfl, hc2, hr2⟩ := hv
 by_cases hlm : l.length = m.length
 ·have hn : ((l.length : Int) != m.length) = false := by simp [hlm]
  have HLM := Lib.hid hlm; clear hlm
  go_enter Tryz.func11, Tryz.ntmps11
  go_wp2
  go_loopw [5] (fun i wr => ∃ (k : Nat), k ≤ l.length ∧ i = .int .i64 k ∧ l.take k = m.take k ∧ Below w.heap.size w wr) (fun i _ => l.length - (intOf i).toNat)
  case atStart => exact ⟨0, by omega, rfl, by simp, Below.refl _ _⟩
  case round =>
   obtain ⟨k, hk, rfl, ht, hB⟩ := hrel
   by_cases hlt : k < l.length
   ·obtain ⟨-, ad, x, rfl, hx, hcell⟩ := (hu'.below hB).at_ (i := k) hlt
    obtain ⟨-, ad2, y, rfl, hy, hcell2⟩ := (hv'.below hB).at_ (i := k) (by rw [← HLM.out]; exact hlt)
    have hkl : (k : Int) < l.length := by omega
    have hkm : (k : Int) < m.length := by rw [← HLM.out]; omega
    have HT := Lib.hid ht; clear ht
    have HX := Lib.hid hx; clear hx
    have HY := Lib.hid hy; clear hy
    by_cases hxy : x = y
    ·have hd : (x != y) = false := by simp [hxy]
     have HXY := Lib.hid hxy; clear hxy
     go_wp2
     go_quiet (fail)
     go_wp2
     go_roundw
     case rel => exact ⟨k + 1, by omega, by go_num, same_step HT.out HX.out HY.out HXY.out, ⟨hB.os, hB.tape, hB.output, hB.size, hB.block⟩⟩
     case measure => simp [intOf]; omega
    ·have hd : (x != y) = true := by simp [hxy]
     have hne : decide (l = m) = false := by
      simp; rintro rfl
      have := HX.out.symm.trans HY.out
      exact hxy (by injection this)
     have HN := Lib.hid hne; clear hne
     clear hxy
     go_wp2
     go_quiet (fail)
     go_wp2
     go_ret
     exact ⟨by rw [HN.out]; rfl, ⟨hB.os, hB.tape, hB.output, hB.size, hB.block⟩⟩
   ·have hk2 : k = l.length := by omega
    have hfin : decide (l = m) = true := by
     subst hk2
     rw [List.take_of_length_le (Nat.le_refl _), List.take_of_length_le (by rw [← HLM.out]; exact Nat.le_refl _)] at ht
     simpa using ht
    have HF := Lib.hid hfin; clear hfin ht hk2
    go_wp2
    go_ret
    exact ⟨by rw [HF.out]; rfl, hB⟩
 ·have hn : ((l.length : Int) != m.length) = true := by simp; omega
  have hfin : decide (l = m) = false := by simp; rintro rfl; exact hlm rfl
  have HF := Lib.hid hfin; clear hfin hlm
  go_enter Tryz.func11, Tryz.ntmps11
  go_wp2
  go_ret
  exact ⟨by rw [HF.out]; rfl, Below.refl _ _⟩
set_option maxRecDepth 100000 in
set_option maxHeartbeats 1000000 in
theorem refLittle_any (u : Value) (l : List Int) (w : World) (hu : RI w .u8 u l) (hb : ∀ x ∈ l, 0 ≤ x ∧ x < 256) (hlen : l.length = 32) :
  Calls Tryz.prog 89 #[u] w (RetN w (leN l) true) := by
 have hu' := hu
 obtain ⟨A, c, rfl, hc, hr⟩ := hu
 obtain ⟨-, ad, x, rfl, -, -⟩ := hu'.at_ (i := 0) (by omega)
 rw [hlen] at hc hu' hr ⊢
 have hn : ((32 : Int) != 32) = false := rfl
 clear hr
 have cut : ∀ i, i % 8 = 0 → i + 8 ≤ 32 → ∀ W, Below w.heap.size w W → Calls Tryz.prog 111 #[.slice (if c = i then some ad else some (ad.add i)) 8 (c - i)] W
   (fun e w' => e = .returned (.int .u64 (limbTo l (i / 8) 32)) ∧ W = w') := by
  intro i hi8 hi W hB
  have h := (hu'.below hB).slice_ (i := i) (j := i + 8) (by omega) (by omega)
  rw [show i + 8 - i = 8 by omega] at h
  have hl : ((l.drop i).take 8).length = 8 := by simp; omega
  have := eight_any _ _ W h (fun x hx => hb x (List.mem_of_mem_drop (List.mem_of_mem_take hx))) hl
  have e : lt8 (fun q => ((l.drop i).take 8).getD q 0) 8 = limbTo l (i / 8) 32 := by
   unfold limbTo
   rw [show min 8 (32 - 8 * (i / 8)) = 8 by omega, show 8 * (i / 8) = i by omega]
   refine lt8_congr fun q hq => ?_
   simp [List.getD, List.getElem?_take, hq]
  rw [e] at this
  exact this
 have e1 : c ≠ 8 := by omega
 have e2 : c ≠ 16 := by omega
 have e3 : c ≠ 24 := by omega
 have c0 := cut 0 (by omega) (by omega)
 have c1 := cut 8 (by omega) (by omega)
 have c2 := cut 16 (by omega) (by omega)
 have c3 := cut 24 (by omega) (by omega)
 have e0 : c ≠ 0 := by omega
 rw [if_neg e0, show ad.add 0 = ad from rfl, Nat.sub_zero] at c0
 rw [if_neg e1, show ad.add 8 = ⟨ad.block, ad.off + 8, none⟩ from rfl] at c1
 rw [if_neg e2, show ad.add 16 = ⟨ad.block, ad.off + 16, none⟩ from rfl] at c2
 rw [if_neg e3, show ad.add 24 = ⟨ad.block, ad.off + 24, none⟩ from rfl] at c3
 obtain ⟨x0, x1, x2, x3, hL⟩ : ∃ x0 x1 x2 x3, leN l = [x0, x1, x2, x3] := ⟨_, _, _, _, rfl⟩
 have hL' := hL
 simp only [leN, leTo, List.cons.injEq, and_true] at hL'
 obtain ⟨h0, h1, h2, h3⟩ := hL'
 simp only [Nat.reduceDiv, h0, h1, h2, h3] at c0 c1 c2 c3
 rw [hL]
 have C0 := Lib.hid c0; have C1 := Lib.hid c1; have C2 := Lib.hid c2; have C3 := Lib.hid c3
 clear cut c0 c1 c2 c3 hu' hb hlen h0 h1 h2 h3 hL
 go_enter Tryz.func89, Tryz.ntmps89
 go_wp2
 refine wp_region_still_tail 13 (by kernel_rfl) (by kernel_rfl) ?_
 have hb1 : Below w.heap.size w (w.alloc (.cells #[.int .u64 0, .int .u64 0, .int .u64 0, .int .u64 0] 27)).drew := ((Below.refl _ _).alloc (Nat.le_refl _) _).drew
 have hb0 : Blk (w.alloc (.cells #[.int .u64 0, .int .u64 0, .int .u64 0, .int .u64 0] 27)).drew w.heap.size 27 #[.int .u64 0, .int .u64 0, .int .u64 0, .int .u64 0] := (Blk.new w 27 _).drew
 change wpStill _ _ (w.alloc (.cells #[.int .u64 0, .int .u64 0, .int .u64 0, .int .u64 0] 27)).drew (fun a' => wpList _ _ _ _ a' (w.alloc (.cells #[.int .u64 0, .int .u64 0, .int .u64 0, .int .u64 0] 27)).drew) _ _
 generalize (w.alloc (.cells #[.int .u64 0, .int .u64 0, .int .u64 0, .int .u64 0] 27)).drew = W at hb0 hb1 ⊢
 have d0 := C0.out _ hb1; have d1 := C1.out _ hb1; have d2 := C2.out _ hb1; have d3 := C3.out _ hb1
 have D0 := Lib.hid d0; have D1 := Lib.hid d1; have D2 := Lib.hid d2; have D3 := Lib.hid d3
 clear d0 d1 d2 d3 C0 C1 C2 C3
 have HB1 := Lib.hid hb1; have HB0 := Lib.hid hb0
 clear hb0 hb1
 simp only [List.take_succ_cons, List.take_zero, List.drop_succ_cons, List.drop_zero]
 have i1 : (8 : Int) ≤ c := by omega
 have i2 : (16 : Int) ≤ c := by omega
 have i3 : (24 : Int) ≤ c := by omega
 have i4 : (32 : Int) ≤ c := by omega
 repeat still_step
 refine wpStill_step (fun K hK => ?_)
 go_simp
 refine ⟨_, D0.out.mono (fun _ _ h => ⟨h.1, h.2.symm⟩), hK _ ?_⟩
 clear hK K
 repeat still_step
 refine wpStill_step (fun K hK => ?_)
 go_simp
 refine ⟨_, D1.out.mono (fun _ _ h => ⟨h.1, h.2.symm⟩), hK _ ?_⟩
 clear hK K
 repeat still_step
 refine wpStill_step (fun K hK => ?_)
 go_simp
 refine ⟨_, D2.out.mono (fun _ _ h => ⟨h.1, h.2.symm⟩), hK _ ?_⟩
 clear hK K
 repeat still_step
 refine wpStill_step (fun K hK => ?_)
 go_simp
 refine ⟨_, D3.out.mono (fun _ _ h => ⟨h.1, h.2.symm⟩), hK _ ?_⟩
 clear hK K
 repeat still_step
 refine wpStill_nil ?_
 have r2 := HB0.out.cell
 have r3 := HB0.out.frozen
 go_wp2
 have hfin := (((HB0.out.set_ 0 (.int .u64 x0)).set_ 1 (.int .u64 x1)).set_ 2 (.int .u64 x2)).set_ 3 (.int .u64 x3)
 refine bodyPost_ret (results_blk_tmp (d := .array 4 25) Tryz.results89 rfl hfin rfl Tryz.underlying27 (by kernel_rfl)) rfl ⟨rfl, ?_⟩
 exact (((HB1.out.setCell (by simp) _).setCell (by simp) _).setCell (by simp) _).setCell (by simp) _
set_option maxRecDepth 100000 in
set_option maxHeartbeats 1000000 in
theorem refBig_any (u : Value) (l : List Int) (w : World) (hu : RI w .u8 u l) (hb : ∀ x ∈ l, 0 ≤ x ∧ x < 256) (hlen : l.length = 32) :
  Calls Tryz.prog 56 #[u] w (RetN w (leN l.reverse) true) := by
 have HL := Lib.hid hlen; clear hlen
 go_enter Tryz.func56, Tryz.ntmps56
 go_wp2_with fail
 refine (turned_any u l _ (hu.below ((Below.refl _ _).alloc (Nat.le_refl _) _)) (by rw [HL.out]; omega)).mono ?_
 rintro e w1 ⟨v, rfl, hv, hb1⟩
 go_wp2_with fail
 refine (refLittle_any v _ w1 hv.ri (fun x hx => hb x (List.mem_reverse.1 hx)) (by simp [HL.out])).mono ?_
 rintro e w3 ⟨rfl, hb3⟩
 have hb4 := hb1.trans (hb3.mono hb1.size)
 have H0 := ((Blk.new w 27 #[.int .u64 0, .int .u64 0, .int .u64 0, .int .u64 0]).below hb4 (by simp))
 have r2 := H0.cell
 have r3 := H0.frozen
 have H := Lib.hid H0; clear H0
 obtain ⟨x0, x1, x2, x3, hL⟩ : ∃ x0 x1 x2 x3, leN l.reverse = [x0, x1, x2, x3] := ⟨_, _, _, _, rfl⟩
 simp only [hL, List.map_cons, List.map_nil]
 have HX := Lib.hid hL; clear hL
 go_wp2
 have hfin := (((H.out.set_ 0 (.int .u64 x0)).set_ 1 (.int .u64 x1)).set_ 2 (.int .u64 x2)).set_ 3 (.int .u64 x3)
 refine bodyPost_ret (results_blk_tmp (d := .array 4 25) Tryz.results56 rfl hfin rfl Tryz.underlying27 (by kernel_rfl)) rfl ⟨by rw [HX.out]; rfl, ?_⟩
 have hB := ((Below.refl w.heap.size w).alloc (Nat.le_refl _) (.cells #[.int .u64 0, .int .u64 0, .int .u64 0, .int .u64 0] 27)).trans (hb4.mono (by simp))
 exact (((hB.setCell (by simp) _).setCell (by simp) _).setCell (by simp) _).setCell (by simp) _
end Go.Proofs.YtdcganigfihkjaaGreatDoor
/- Contracts of slices.Grow (of nil) and slices.Concat at bytes. -/
namespace Go.Proofs.YtdcganigfihkjaaGreatDoor
open Go.RowKit Go.Chr
set_option maxRecDepth 100000 in
theorem app_zeros {w : World} {ops : Array Oper} {rest : List Oper} {o : Oper} {a : Act} {Q : Exit → Act → World → Prop} (hgd : o.guard = none) (s x : Operand)
  (ho : o.op = .call { callee := .builtin .append, args := #[s, x], argTypes := #[22, 3] })
  (n : Nat) (hs : a.eval s = .slice none 0 0) (hx : a.eval x = .int .i64 ((n : Int) + 1)) (hn : n + 1 ≤ 1000000000)
  (h : ∀ G, n + 1 ≤ G → G ≤ maxLen → wpList Tryz.prog ops Q rest (a.put o.dst (.slice (some ⟨w.heap.size, 0, none⟩) (n + 1) G)) (w.drew.alloc (.cells ((List.replicate G 0).map (Value.int .u8)).toArray 5))) :
  wpList Tryz.prog ops Q (o :: rest) a w := by
 obtain ⟨i0, hi0, hz0, hz1, hz2⟩ := info_parts info_u8
 have hrz : (Builtin.append_ #[22, 3] o.type #[.slice none 0 0, .int .i64 ((n : Int) + 1)]).run Tryz.prog w =
   .ok (.slice (some ⟨w.heap.size, 0, none⟩) (n + 1) (grownCap w (n + 1) 0 5)) (w.drew.alloc (.cells ((List.replicate (grownCap w (n + 1) 0 5) 0).map (Value.int .u8)).toArray 5)) := by
  have h := Lib.run_append_grow_zeros (P := Tryz.prog) w 22 3 o.type 5 i0 (.int .u8 0) .i64 .i64 Tryz.underlying22 Tryz.underlying3 hi0 hz0 none 0 0 []
   (by simp [Builtin.firstCells]) (n + 1) (by omega) (by omega) (by omega) (by omega) (by rw [hz2]; omega)
   (by rw [hz2]; simp [Builtin.nextslicecap]; omega)
  have hG := grownCap_ge w (n + 1) 0 5
  simp only [Nat.zero_add] at h
  rw [show ((n : Int) + 1) = ((n + 1 : Nat) : Int) by omega, h]
  congr 3
  simp only [Builtin.zeroCells, Value.cells]
  apply Array.ext
  ·simp; omega
  ·intro i h1 h2; simp [Array.getElem_append]; split <;> simp [Nat.mod_one]
 refine wpList_plain hgd fun K hK => ?_
 unfold Oper.wp execOp
 simp only [ho, resolve, invoke, builtin, Sem.run_bind, Sem.run_pure, Result.andThen_ok, List.map_toArray, List.map_cons, List.map_nil, hs, hx, hrz]
 exact hK _ _ (h _ (grownCap_ge _ _ _ _) (grownCap_le_maxLen _ _ _ _ (by simp [maxLen]; omega)))
set_option maxRecDepth 100000 in
set_option maxHeartbeats 1000000 in
theorem grow_nil (n : Nat) (w : World) (hn : n ≤ 1000000000) :
  Calls Tryz.prog 104 #[.slice none 0 0, .int .i64 n] w (RetB w []) := by
 rcases n with _ | n
 ·go_enter Tryz.func104, Tryz.ntmps104
  go_wp2
  go_ret
  exact ⟨_, rfl, OI.nil _ _ _ _, Below.refl _ _⟩
 ·have c1 : ((n + 1 : Nat) : Int) = (n : Int) + 1 := by omega
  rw [c1]
  clear c1
  have i1 : (0 : Int) < (n : Int) + 1 := by omega
  go_enter Tryz.func104, Tryz.ntmps104
  go_wp2_with (at_builtin; refine app_zeros rfl (.tmp 20) (.tmp 21) rfl n rfl rfl hn ?_; intro G hG1 hG2; have hG3 : (0 : Int) ≤ G := by omega)
  go_ret
  refine ⟨_, rfl, ?_, ?_⟩
  ·refine OI.mk (l := []) (sp := (List.replicate G (0 : Int)).map (Value.int .u8)) ?_ (Nat.le_refl _) (by simp) hG2
   have := (Blk.new w 5 (Array.replicate G (.int .u8 0))).drew
   simpa [IS] using this
  ·exact ((Below.refl _ _).alloc (Nat.le_refl _) _).drew
theorem flatten_take_succ {ls : List (List Int)} {k : Nat} {l : List Int} (h : ls[k]? = some l) : (ls.take (k + 1)).flatten = (ls.take k).flatten ++ l := by
 obtain ⟨h1, rfl⟩ := List.getElem?_eq_some_iff.1 h
 rw [List.take_succ_eq_append_getElem h1, List.flatten_append]
 simp only [List.flatten_cons, List.flatten_nil, List.append_nil]
def tot (ls : List (List Int)) (k : Nat) : Nat := (ls.take k).flatten.length
theorem tot_succ {ls : List (List Int)} {k : Nat} {l : List Int} (h : ls[k]? = some l) : tot ls (k + 1) = tot ls k + l.length := by
 unfold tot; rw [flatten_take_succ h, List.length_append]
theorem tot_le (ls : List (List Int)) (k : Nat) : tot ls k ≤ ls.flatten.length := by
 unfold tot
 conv => rhs; rw [← List.take_append_drop k ls, List.flatten_append, List.length_append]
 omega
set_option maxRecDepth 100000 in
set_option maxHeartbeats 1000000 in
theorem concat_any (u : Value) (ls : List (List Int)) (w : World) (hu : RR w .u8 u ls) (hlen : ls.flatten.length ≤ 1000000000) (hn : ls.length ≤ 1000000000) :
  Calls Tryz.prog 68 #[u] w (RetB w ls.flatten) := by
 have hu' := hu
 obtain ⟨A, c, us, rfl, hc, -, -⟩ := hu
 have htl : ∀ k, tot ls k ≤ 1000000000 := fun k => Nat.le_trans (tot_le ls k) hlen
 have HT := Lib.hid htl
 clear htl hlen
 go_enter Tryz.func68, Tryz.ntmps68
 go_wp2
 go_loop [3, 11] (fun s i => ∃ (k : Nat), k ≤ ls.length ∧ i = .int .i64 k ∧ s = .int .i64 (tot ls k : Nat)) (fun _ i => ls.length - (intOf i).toNat)
 case atStart => exact ⟨0, Nat.zero_le _, rfl, by simp [tot]⟩
 case round =>
  obtain ⟨k, hk, rfl, rfl⟩ := hrel
  by_cases hlt : k < ls.length
  ·have hl : ls[k]? = some ls[k] := List.getElem?_eq_getElem hlt
   generalize ls[k] = l at hl
   obtain ⟨-, ad, x, rfl, hcell, hx⟩ := hu'.at_ hl
   have hs := tot_succ hl
   have h1 := HT.out (k + 1)
   rw [hs] at h1
   obtain ⟨A2, c2, rfl, hc2, -⟩ := hx
   obtain ⟨a, ha⟩ : ∃ a, a = tot ls k := ⟨_, rfl⟩
   rw [← ha] at h1 hs ⊢
   have i2 : (a : Int) + l.length ≤ 1000000000 := by omega
   have i1 : ((a : Int) + l.length < 0) = False := by simp; omega
   have hkl : (k : Int) < ls.length := by omega
   have HS := Lib.hid hs; clear hs
   clear hl ha
   go_wp2
   go_round
   case rel => exact ⟨k + 1, by omega, by go_num, by rw [HS.out]; go_num⟩
   case measure => simp [intOf]; omega
  ·have hk2 : k = ls.length := by omega
   have h1 := HT.out k
   obtain ⟨N, hN⟩ : ∃ N, N = tot ls k := ⟨_, rfl⟩
   rw [← hN] at h1 ⊢
   have H1 := Lib.hid hk2
   clear hk2 hN
   go_wp2_with fail
   refine (grow_nil N w h1).mono ?_
   rintro e w1 ⟨v, rfl, hv, hb⟩
   go_wp2_with fail
   go_loopw [6, 27] (fun v i wr => ∃ (k : Nat), k ≤ ls.length ∧ i = .int .i64 k ∧ OI wr w.heap.size 5 .u8 v (ls.take k).flatten ∧ Below w.heap.size w wr) (fun _ i _ => ls.length - (intOf i).toNat)
   case atStart => exact ⟨0, Nat.zero_le _, rfl, by simpa using hv, hb⟩
   case round =>
    obtain ⟨k, hk, rfl, hv2, hB⟩ := hrel
    by_cases hlt : k < ls.length
    ·have hl : ls[k]? = some ls[k] := List.getElem?_eq_getElem hlt
     generalize ls[k] = l at hl
     obtain ⟨-, ad, x, rfl, hcell, hx⟩ := (hu'.below hB).at_ hl
     have hs := tot_succ hl
     have h1 := HT.out (k + 1)
     have hlen2 : (ls.take k).flatten.length + l.length ≤ 140737488355328 := by
      have : tot ls k = (ls.take k).flatten.length := rfl
      omega
     have HL := Lib.hid hlen2; clear hlen2
     have HF := Lib.hid (flatten_take_succ hl)
     clear hs hl
     have hkl : (k : Int) < ls.length := by omega
     go_wp2_with (at_builtin; refine app_u8 (B := w.heap.size) rfl (.tmp 31) (.tmp 32) rfl _ _ _ l rfl rfl hv2 hx HL.out hB.size ?_; intro v1 w2 hv1 hb1 _ _)
     go_roundw
     case rel => exact ⟨k + 1, by omega, by go_num, by rw [HF.out]; exact hv1, hB.trans hb1⟩
     case measure => simp [intOf]; omega
    ·have hk2 : k = ls.length := by omega
     subst hk2
     rw [List.take_length] at hv2
     go_wp2
     go_ret
     exact ⟨_, rfl, hv2, hB⟩
end Go.Proofs.YtdcganigfihkjaaGreatDoor
/- Contracts of the layer der: what is encoded. -/
namespace Go.Proofs.YtdcganigfihkjaaGreatDoor
open Go.RowKit Go.Chr
def lenV : Value → Nat
 | .slice _ n _ => n
 | _ => 0
set_option maxRecDepth 100000 in
set_option maxHeartbeats 1000000 in
theorem integer_any (a0 a1 a2 a3 : Int) (w : World) :
  Calls Tryz.prog 62 #[.agg #[.int .u64 a0, .int .u64 a1, .int .u64 a2, .int .u64 a3]] w (RetB w (derI (leB [a0, a1, a2, a3]).reverse)) := by
 go_enter Tryz.func62, Tryz.ntmps62
 go_wp2_with fail
 refine (putBig_any a0 a1 a2 a3 _).mono ?_
 rintro e w1 ⟨v, rfl, hv, hb⟩
 obtain ⟨B, hB⟩ : ∃ B, B = (leB [a0, a1, a2, a3]).reverse := ⟨_, rfl⟩
 rw [← hB] at hv ⊢
 have hBl : B.length = 32 := by rw [hB]; simp [leB_length]
 have HBEQ := Lib.hid hB; clear hB
 have hr := hv.ri
 have hb2 : Below w.heap.size w w1 := ((Below.refl _ _).alloc (Nat.le_refl _) _).trans (hb.mono (by simp))
 clear hv hb
 have HBl := Lib.hid hBl; clear hBl
 go_wp2_with fail
 go_loop [3] (fun v => ∃ l, RI w1 .u8 v l ∧ l ≠ [] ∧ l.length ≤ 32 ∧ pBody l = pBody B) (fun v => lenV v)
 case atStart => exact ⟨B, hr, by intro h; rw [h] at HBl; simp [Hid] at HBl, by rw [HBl.out]; omega, rfl⟩
 case round =>
  obtain ⟨l, hl, hne, hlen, hp⟩ := hrel
  obtain ⟨x, r, rfl⟩ : ∃ x r, l = x :: r := by
   rcases l with _ | ⟨x, r⟩
   ·exact (hne rfl).elim
   ·exact ⟨x, r, rfl⟩
  have hl' := hl
  obtain ⟨A, c, rfl, hc, -⟩ := hl
  obtain ⟨-, ad, x', rfl, hx', cell0⟩ := hl'.at_ (i := 0) (by simp)
  obtain rfl : x' = x := by simpa using hx'.symm
  clear hx' hne
  obtain ⟨n, hn⟩ : ∃ n, n = (x' :: r).length := ⟨_, rfl⟩
  rw [← hn] at hl' hc hlen ⊢
  have n1 : 1 ≤ n := by rw [hn]; simp
  have cell0' : w1.cell? ad = some (.int .u8 x') := cell0
  by_cases hA : ∃ y r', r = y :: r' ∧ x' = 0 ∧ y < 128
  ·obtain ⟨y, r', rfl, rfl, hy⟩ := hA
   obtain ⟨-, ad2, y', e, hy', cell1⟩ := hl'.at_ (i := 1) (by simp)
   injection e with e
   subst e
   obtain rfl : y' = y := by simpa using hy'.symm
   have cell1' : w1.cell? ⟨ad.block, ad.off + 1, none⟩ = some (.int .u8 y') := cell1
   have n2 : (1 : Int) < n := by rw [hn]; simp; omega
   have c1 : c ≠ 1 := by omega
   have c2 : (1 : Int) ≤ n := by omega
   have cut := hl'.slice_ (i := 1) (j := n) (by omega) (Nat.le_refl _)
   have hcut : List.take (n - 1) (List.drop 1 (0 :: y' :: r')) = y' :: r' := by rw [hn]; simp
   rw [hcut, if_neg c1] at cut
   have HN := Lib.hid hn; have HCUT := Lib.hid cut; have HP := Lib.hid hp
   clear hn cut hp hcut hl' hy'
   go_wp2
   go_round
   case rel => exact ⟨y' :: r', HCUT.out, by simp, by have := HN.out; simp at this ⊢; omega, by rw [← HP.out, pBody_zero]⟩
   case measure => simp [lenV]; omega
  ·have hstop : r = [] ∨ x' ≠ 0 ∨ ∃ y r', r = y :: r' ∧ 128 ≤ y ∧ x' = 0 := by
    rcases r with _ | ⟨y, r'⟩
    ·exact .inl rfl
    ·by_cases h0 : x' = 0
     ·exact .inr (.inr ⟨y, r', rfl, by
       apply Classical.byContradiction; intro h; exact hA ⟨y, r', rfl, h0, by omega⟩, h0⟩)
     ·exact .inr (.inl h0)
   have hbody : pBody B = if 128 ≤ x' then 0 :: x' :: r else x' :: r := by
    rw [← hp]
    rcases hstop with h | h | ⟨y, r', rfl, h, -⟩
    ·exact pBody_stop x' r (.inl h)
    ·exact pBody_stop x' r (.inr h)
    ·rw [pBody, if_neg (by omega)]
   have HBODY := Lib.hid hbody
   clear hA hp hbody
   have HN := Lib.hid hn; have HL := Lib.hid hl'
   clear hn hl'
   rcases hstop with hr0 | h0 | ⟨y, r', hr0, hy, h0⟩
   ·have n2 : decide ((1 : Int) < n) = false := by have := HN.out; rw [hr0] at this; simp at this ⊢; omega
    clear hr0
    by_cases hx : 128 ≤ x'
    ·have HX := Lib.hid hx
     have d9 : decide ((128 : Int) ≤ x') = true := by simpa using hx
     have L1 : (x' :: r).length = n := HN.out.symm
     have L2 : [(0 : Int)].length + (x' :: r).length ≤ 140737488355328 := by rw [L1]; simp; omega
     have L3 : w1.heap.size ≤ (w1.alloc (.cells #[.int .u8 0] 5)).heap.size := by simp
     have L4 : ([(0 : Int)] ++ (x' :: r)).length = n + 1 := by rw [List.length_append, L1]; simp; omega
     have L5 : [2, (n : Int) + 1].length + ([(0 : Int)] ++ (x' :: r)).length ≤ 140737488355328 := by rw [L4]; simp; omega
     have O1 := OI.lit w1 5 .u8 [0] (by simp)
     have R1 := HL.out.below ((Below.refl _ w1).alloc (Nat.le_refl _) (.cells #[.int .u8 0] 5))
     have HL1 := Lib.hid L1; have HL2 := Lib.hid L2; have HL3 := Lib.hid L3; have HL4 := Lib.hid L4; have HL5 := Lib.hid L5; have HO1 := Lib.hid O1; have HR1 := Lib.hid R1
     clear L1 L2 L3 L4 L5 O1 R1
     go_wp2_with (first | (at_builtin; refine app_u8 (B := w1.heap.size) rfl (.tmp 27) (.tmp 28) rfl _ _ [0] (x' :: r) rfl rfl HO1.out HR1.out HL2.out HL3.out ?_; intro v1 w2 hv1 hb3 _ _; obtain ⟨g, cap, rfl, -, -⟩ := hv1.form (n := n + 1) HL4.out (Nat.succ_pos _); have HV := Lib.hid hv1; clear hv1; have hb3' : Below w1.heap.size w1 w2 := ((Below.refl _ _).alloc (Nat.le_refl _) _).trans hb3) | (at_builtin; refine app_u8 (B := w2.heap.size) rfl (.tmp 33) (.tmp 34) rfl _ _ [2, (n : Int) + 1] ([0] ++ (x' :: r)) rfl rfl (OI.lit w2 _ _ [2, (n : Int) + 1] (by simp)) (HV.out.ri.below ((Below.refl _ _).alloc (Nat.le_refl _) _)) HL5.out (by simp) ?_; intro v2 w3 hv2 hb4 _ _))
     go_ret
     have hx := HX.out
     have hbd := HBODY.out
     rw [if_pos (by omega)] at hbd
     refine ⟨v2, rfl, ?_, hb2.trans (hb3'.trans ((((Below.refl _ _).alloc (Nat.le_refl _) _).trans hb4).mono hb3'.size) |>.mono hb2.size)⟩
     have hn := HN.out
     unfold derI; rw [← HBEQ.out]
     rw [hbd, show ((0 :: x' :: r : List Int).length : Int) = (n : Int) + 1 by rw [hn]; simp]
     exact hv2.mono (Nat.le_trans hb2.size hb3'.size)
    ·have HX := Lib.hid hx
     have d9 : decide ((128 : Int) ≤ x') = false := by simpa using hx
     have L1 : (x' :: r).length = n := HN.out.symm
     have L2 : [2, (n : Int)].length + (x' :: r).length ≤ 140737488355328 := by rw [L1]; simp; omega
     have L3 : w1.heap.size ≤ (w1.alloc (.cells #[.int .u8 2, .int .u8 n] 5)).heap.size := by simp
     have O1 := OI.lit w1 5 .u8 [2, (n : Int)] (by simp)
     have R1 := HL.out.below ((Below.refl _ w1).alloc (Nat.le_refl _) (.cells #[.int .u8 2, .int .u8 n] 5))
     have HL1 := Lib.hid L1; have HL2 := Lib.hid L2; have HL3 := Lib.hid L3; have HO1 := Lib.hid O1; have HR1 := Lib.hid R1
     clear L1 L2 L3 O1 R1
     go_wp2_with (at_builtin; refine app_u8 (B := w1.heap.size) rfl (.tmp 33) (.tmp 34) rfl _ _ [2, (n : Int)] (x' :: r) rfl rfl HO1.out HR1.out HL2.out HL3.out ?_; intro v1 w2 hv1 hb3 _ _)
     go_ret
     have hx := HX.out
     have hbd := HBODY.out
     rw [if_neg (by omega)] at hbd
     refine ⟨v1, rfl, ?_, hb2.trans (((Below.refl _ _).alloc (Nat.le_refl _) _).trans hb3 |>.mono hb2.size)⟩
     have hn := HN.out
     unfold derI; rw [← HBEQ.out]
     rw [hbd, ← hn]
     exact hv1.mono hb2.size
   ·have d2 : (x' == 0) = false := by simpa using h0
    by_cases n2' : (1 : Int) < n
    ·have n2 : decide ((1 : Int) < n) = true := by simpa using n2'
     clear n2'
     by_cases hx : 128 ≤ x'
     ·have HX := Lib.hid hx
      have d9 : decide ((128 : Int) ≤ x') = true := by simpa using hx
      have L1 : (x' :: r).length = n := HN.out.symm
      have L2 : [(0 : Int)].length + (x' :: r).length ≤ 140737488355328 := by rw [L1]; simp; omega
      have L3 : w1.heap.size ≤ (w1.alloc (.cells #[.int .u8 0] 5)).heap.size := by simp
      have L4 : ([(0 : Int)] ++ (x' :: r)).length = n + 1 := by rw [List.length_append, L1]; simp; omega
      have L5 : [2, (n : Int) + 1].length + ([(0 : Int)] ++ (x' :: r)).length ≤ 140737488355328 := by rw [L4]; simp; omega
      have O1 := OI.lit w1 5 .u8 [0] (by simp)
      have R1 := HL.out.below ((Below.refl _ w1).alloc (Nat.le_refl _) (.cells #[.int .u8 0] 5))
      have HL1 := Lib.hid L1; have HL2 := Lib.hid L2; have HL3 := Lib.hid L3; have HL4 := Lib.hid L4; have HL5 := Lib.hid L5; have HO1 := Lib.hid O1; have HR1 := Lib.hid R1
      clear L1 L2 L3 L4 L5 O1 R1
      go_wp2_with (first | (at_builtin; refine app_u8 (B := w1.heap.size) rfl (.tmp 27) (.tmp 28) rfl _ _ [0] (x' :: r) rfl rfl HO1.out HR1.out HL2.out HL3.out ?_; intro v1 w2 hv1 hb3 _ _; obtain ⟨g, cap, rfl, -, -⟩ := hv1.form (n := n + 1) HL4.out (Nat.succ_pos _); have HV := Lib.hid hv1; clear hv1; have hb3' : Below w1.heap.size w1 w2 := ((Below.refl _ _).alloc (Nat.le_refl _) _).trans hb3) | (at_builtin; refine app_u8 (B := w2.heap.size) rfl (.tmp 33) (.tmp 34) rfl _ _ [2, (n : Int) + 1] ([0] ++ (x' :: r)) rfl rfl (OI.lit w2 _ _ [2, (n : Int) + 1] (by simp)) (HV.out.ri.below ((Below.refl _ _).alloc (Nat.le_refl _) _)) HL5.out (by simp) ?_; intro v2 w3 hv2 hb4 _ _))
      go_ret
      have hx := HX.out
      have hbd := HBODY.out
      rw [if_pos (by omega)] at hbd
      refine ⟨v2, rfl, ?_, hb2.trans (hb3'.trans ((((Below.refl _ _).alloc (Nat.le_refl _) _).trans hb4).mono hb3'.size) |>.mono hb2.size)⟩
      have hn := HN.out
      unfold derI; rw [← HBEQ.out]
      rw [hbd, show ((0 :: x' :: r : List Int).length : Int) = (n : Int) + 1 by rw [hn]; simp]
      exact hv2.mono (Nat.le_trans hb2.size hb3'.size)
     ·have HX := Lib.hid hx
      have d9 : decide ((128 : Int) ≤ x') = false := by simpa using hx
      have L1 : (x' :: r).length = n := HN.out.symm
      have L2 : [2, (n : Int)].length + (x' :: r).length ≤ 140737488355328 := by rw [L1]; simp; omega
      have L3 : w1.heap.size ≤ (w1.alloc (.cells #[.int .u8 2, .int .u8 n] 5)).heap.size := by simp
      have O1 := OI.lit w1 5 .u8 [2, (n : Int)] (by simp)
      have R1 := HL.out.below ((Below.refl _ w1).alloc (Nat.le_refl _) (.cells #[.int .u8 2, .int .u8 n] 5))
      have HL1 := Lib.hid L1; have HL2 := Lib.hid L2; have HL3 := Lib.hid L3; have HO1 := Lib.hid O1; have HR1 := Lib.hid R1
      clear L1 L2 L3 O1 R1
      go_wp2_with (at_builtin; refine app_u8 (B := w1.heap.size) rfl (.tmp 33) (.tmp 34) rfl _ _ [2, (n : Int)] (x' :: r) rfl rfl HO1.out HR1.out HL2.out HL3.out ?_; intro v1 w2 hv1 hb3 _ _)
      go_ret
      have hx := HX.out
      have hbd := HBODY.out
      rw [if_neg (by omega)] at hbd
      refine ⟨v1, rfl, ?_, hb2.trans (((Below.refl _ _).alloc (Nat.le_refl _) _).trans hb3 |>.mono hb2.size)⟩
      have hn := HN.out
      unfold derI; rw [← HBEQ.out]
      rw [hbd, ← hn]
      exact hv1.mono hb2.size
    ·have n2 : decide ((1 : Int) < n) = false := by simpa using n2'
     clear n2'
     by_cases hx : 128 ≤ x'
     ·have HX := Lib.hid hx
      have d9 : decide ((128 : Int) ≤ x') = true := by simpa using hx
      have L1 : (x' :: r).length = n := HN.out.symm
      have L2 : [(0 : Int)].length + (x' :: r).length ≤ 140737488355328 := by rw [L1]; simp; omega
      have L3 : w1.heap.size ≤ (w1.alloc (.cells #[.int .u8 0] 5)).heap.size := by simp
      have L4 : ([(0 : Int)] ++ (x' :: r)).length = n + 1 := by rw [List.length_append, L1]; simp; omega
      have L5 : [2, (n : Int) + 1].length + ([(0 : Int)] ++ (x' :: r)).length ≤ 140737488355328 := by rw [L4]; simp; omega
      have O1 := OI.lit w1 5 .u8 [0] (by simp)
      have R1 := HL.out.below ((Below.refl _ w1).alloc (Nat.le_refl _) (.cells #[.int .u8 0] 5))
      have HL1 := Lib.hid L1; have HL2 := Lib.hid L2; have HL3 := Lib.hid L3; have HL4 := Lib.hid L4; have HL5 := Lib.hid L5; have HO1 := Lib.hid O1; have HR1 := Lib.hid R1
      clear L1 L2 L3 L4 L5 O1 R1
      go_wp2_with (first | (at_builtin; refine app_u8 (B := w1.heap.size) rfl (.tmp 27) (.tmp 28) rfl _ _ [0] (x' :: r) rfl rfl HO1.out HR1.out HL2.out HL3.out ?_; intro v1 w2 hv1 hb3 _ _; obtain ⟨g, cap, rfl, -, -⟩ := hv1.form (n := n + 1) HL4.out (Nat.succ_pos _); have HV := Lib.hid hv1; clear hv1; have hb3' : Below w1.heap.size w1 w2 := ((Below.refl _ _).alloc (Nat.le_refl _) _).trans hb3) | (at_builtin; refine app_u8 (B := w2.heap.size) rfl (.tmp 33) (.tmp 34) rfl _ _ [2, (n : Int) + 1] ([0] ++ (x' :: r)) rfl rfl (OI.lit w2 _ _ [2, (n : Int) + 1] (by simp)) (HV.out.ri.below ((Below.refl _ _).alloc (Nat.le_refl _) _)) HL5.out (by simp) ?_; intro v2 w3 hv2 hb4 _ _))
      go_ret
      have hx := HX.out
      have hbd := HBODY.out
      rw [if_pos (by omega)] at hbd
      refine ⟨v2, rfl, ?_, hb2.trans (hb3'.trans ((((Below.refl _ _).alloc (Nat.le_refl _) _).trans hb4).mono hb3'.size) |>.mono hb2.size)⟩
      have hn := HN.out
      unfold derI; rw [← HBEQ.out]
      rw [hbd, show ((0 :: x' :: r : List Int).length : Int) = (n : Int) + 1 by rw [hn]; simp]
      exact hv2.mono (Nat.le_trans hb2.size hb3'.size)
     ·have HX := Lib.hid hx
      have d9 : decide ((128 : Int) ≤ x') = false := by simpa using hx
      have L1 : (x' :: r).length = n := HN.out.symm
      have L2 : [2, (n : Int)].length + (x' :: r).length ≤ 140737488355328 := by rw [L1]; simp; omega
      have L3 : w1.heap.size ≤ (w1.alloc (.cells #[.int .u8 2, .int .u8 n] 5)).heap.size := by simp
      have O1 := OI.lit w1 5 .u8 [2, (n : Int)] (by simp)
      have R1 := HL.out.below ((Below.refl _ w1).alloc (Nat.le_refl _) (.cells #[.int .u8 2, .int .u8 n] 5))
      have HL1 := Lib.hid L1; have HL2 := Lib.hid L2; have HL3 := Lib.hid L3; have HO1 := Lib.hid O1; have HR1 := Lib.hid R1
      clear L1 L2 L3 O1 R1
      go_wp2_with (at_builtin; refine app_u8 (B := w1.heap.size) rfl (.tmp 33) (.tmp 34) rfl _ _ [2, (n : Int)] (x' :: r) rfl rfl HO1.out HR1.out HL2.out HL3.out ?_; intro v1 w2 hv1 hb3 _ _)
      go_ret
      have hx := HX.out
      have hbd := HBODY.out
      rw [if_neg (by omega)] at hbd
      refine ⟨v1, rfl, ?_, hb2.trans (((Below.refl _ _).alloc (Nat.le_refl _) _).trans hb3 |>.mono hb2.size)⟩
      have hn := HN.out
      unfold derI; rw [← HBEQ.out]
      rw [hbd, ← hn]
      exact hv1.mono hb2.size
   ·have n2 : decide ((1 : Int) < n) = true := by have := HN.out; rw [hr0] at this; simp at this ⊢; omega
    obtain ⟨-, ad2, y', e, hy', cell1⟩ := HL.out.at_ (i := 1) (by rw [hr0]; simp)
    injection e with e
    subst e
    obtain rfl : y' = y := by rw [hr0] at hy'; simpa using hy'.symm
    have cell1' : w1.cell? ⟨ad.block, ad.off + 1, none⟩ = some (.int .u8 y') := cell1
    have d3 : decide (y' < (128 : Int)) = false := by simp; omega
    have n3 : (1 : Int) < n := by simpa using n2
    have d2 : (x' == 0) = true := by simpa using h0
    clear h0
    clear hr0 hy'
    by_cases hx : 128 ≤ x'
    ·have HX := Lib.hid hx
     have d9 : decide ((128 : Int) ≤ x') = true := by simpa using hx
     have L1 : (x' :: r).length = n := HN.out.symm
     have L2 : [(0 : Int)].length + (x' :: r).length ≤ 140737488355328 := by rw [L1]; simp; omega
     have L3 : w1.heap.size ≤ (w1.alloc (.cells #[.int .u8 0] 5)).heap.size := by simp
     have L4 : ([(0 : Int)] ++ (x' :: r)).length = n + 1 := by rw [List.length_append, L1]; simp; omega
     have L5 : [2, (n : Int) + 1].length + ([(0 : Int)] ++ (x' :: r)).length ≤ 140737488355328 := by rw [L4]; simp; omega
     have O1 := OI.lit w1 5 .u8 [0] (by simp)
     have R1 := HL.out.below ((Below.refl _ w1).alloc (Nat.le_refl _) (.cells #[.int .u8 0] 5))
     have HL1 := Lib.hid L1; have HL2 := Lib.hid L2; have HL3 := Lib.hid L3; have HL4 := Lib.hid L4; have HL5 := Lib.hid L5; have HO1 := Lib.hid O1; have HR1 := Lib.hid R1
     clear L1 L2 L3 L4 L5 O1 R1
     go_wp2_with (first | (at_builtin; refine app_u8 (B := w1.heap.size) rfl (.tmp 27) (.tmp 28) rfl _ _ [0] (x' :: r) rfl rfl HO1.out HR1.out HL2.out HL3.out ?_; intro v1 w2 hv1 hb3 _ _; obtain ⟨g, cap, rfl, -, -⟩ := hv1.form (n := n + 1) HL4.out (Nat.succ_pos _); have HV := Lib.hid hv1; clear hv1; have hb3' : Below w1.heap.size w1 w2 := ((Below.refl _ _).alloc (Nat.le_refl _) _).trans hb3) | (at_builtin; refine app_u8 (B := w2.heap.size) rfl (.tmp 33) (.tmp 34) rfl _ _ [2, (n : Int) + 1] ([0] ++ (x' :: r)) rfl rfl (OI.lit w2 _ _ [2, (n : Int) + 1] (by simp)) (HV.out.ri.below ((Below.refl _ _).alloc (Nat.le_refl _) _)) HL5.out (by simp) ?_; intro v2 w3 hv2 hb4 _ _))
     go_ret
     have hx := HX.out
     have hbd := HBODY.out
     rw [if_pos (by omega)] at hbd
     refine ⟨v2, rfl, ?_, hb2.trans (hb3'.trans ((((Below.refl _ _).alloc (Nat.le_refl _) _).trans hb4).mono hb3'.size) |>.mono hb2.size)⟩
     have hn := HN.out
     unfold derI; rw [← HBEQ.out]
     rw [hbd, show ((0 :: x' :: r : List Int).length : Int) = (n : Int) + 1 by rw [hn]; simp]
     exact hv2.mono (Nat.le_trans hb2.size hb3'.size)
    ·have HX := Lib.hid hx
     have d9 : decide ((128 : Int) ≤ x') = false := by simpa using hx
     have L1 : (x' :: r).length = n := HN.out.symm
     have L2 : [2, (n : Int)].length + (x' :: r).length ≤ 140737488355328 := by rw [L1]; simp; omega
     have L3 : w1.heap.size ≤ (w1.alloc (.cells #[.int .u8 2, .int .u8 n] 5)).heap.size := by simp
     have O1 := OI.lit w1 5 .u8 [2, (n : Int)] (by simp)
     have R1 := HL.out.below ((Below.refl _ w1).alloc (Nat.le_refl _) (.cells #[.int .u8 2, .int .u8 n] 5))
     have HL1 := Lib.hid L1; have HL2 := Lib.hid L2; have HL3 := Lib.hid L3; have HO1 := Lib.hid O1; have HR1 := Lib.hid R1
     clear L1 L2 L3 O1 R1
     go_wp2_with (at_builtin; refine app_u8 (B := w1.heap.size) rfl (.tmp 33) (.tmp 34) rfl _ _ [2, (n : Int)] (x' :: r) rfl rfl HO1.out HR1.out HL2.out HL3.out ?_; intro v1 w2 hv1 hb3 _ _)
     go_ret
     have hx := HX.out
     have hbd := HBODY.out
     rw [if_neg (by omega)] at hbd
     refine ⟨v1, rfl, ?_, hb2.trans (((Below.refl _ _).alloc (Nat.le_refl _) _).trans hb3 |>.mono hb2.size)⟩
     have hn := HN.out
     unfold derI; rw [← HBEQ.out]
     rw [hbd, ← hn]
     exact hv1.mono hb2.size
set_option maxRecDepth 100000 in
set_option maxHeartbeats 1000000 in
theorem encode_any (a0 a1 a2 a3 b0 b1 b2 b3 : Int) (w : World) :
  Calls Tryz.prog 29 #[.agg #[.int .u64 a0, .int .u64 a1, .int .u64 a2, .int .u64 a3], .agg #[.int .u64 b0, .int .u64 b1, .int .u64 b2, .int .u64 b3]] w
   (RetB w (derE (leB [a0, a1, a2, a3]).reverse (leB [b0, b1, b2, b3]).reverse)) := by
 obtain ⟨l1, hl1⟩ : ∃ l, l = derI (leB [a0, a1, a2, a3]).reverse := ⟨_, rfl⟩
 obtain ⟨l2, hl2⟩ : ∃ l, l = derI (leB [b0, b1, b2, b3]).reverse := ⟨_, rfl⟩
 have n1 : l1.length ≤ 35 := by
  have := (pBody_length (leB [a0, a1, a2, a3]).reverse (by intro h; have := congrArg List.length h; simp [leB_length] at this)).2
  rw [hl1, derI]; simp [leB_length] at this ⊢; omega
 have n0 : 0 < l1.length := by rw [hl1, derI]; simp
 have n2 : l2.length ≤ 35 := by
  have := (pBody_length (leB [b0, b1, b2, b3]).reverse (by intro h; have := congrArg List.length h; simp [leB_length] at this)).2
  rw [hl2, derI]; simp [leB_length] at this ⊢; omega
 have k1 := fun W => integer_any a0 a1 a2 a3 W
 have k2 := fun W => integer_any b0 b1 b2 b3 W
 rw [← hl1] at k1
 rw [← hl2] at k2
 have K1 := Lib.hid k1; have K2 := Lib.hid k2
 rw [show derE (leB [a0, a1, a2, a3]).reverse (leB [b0, b1, b2, b3]).reverse = 48 :: ((l1 ++ l2).length : Int) :: (l1 ++ l2) by rw [hl1, hl2]; rfl]
 clear hl1 hl2 k1 k2
 go_enter Tryz.func29, Tryz.ntmps29
 go_wp2
 go_region_held3 (fun w' => w'.cell? ⟨w.heap.size, 0, none⟩ = some (.int .u64 a0) ∧ w'.cell? ⟨w.heap.size, 1, none⟩ = some (.int .u64 a1) ∧ w'.cell? ⟨w.heap.size, 2, none⟩ = some (.int .u64 a2) ∧ w'.cell? ⟨w.heap.size, 3, none⟩ = some (.int .u64 a3) ∧
   w'.cell? ⟨w.heap.size + 1, 0, none⟩ = some (.int .u64 b0) ∧ w'.cell? ⟨w.heap.size + 1, 1, none⟩ = some (.int .u64 b1) ∧ w'.cell? ⟨w.heap.size + 1, 2, none⟩ = some (.int .u64 b2) ∧ w'.cell? ⟨w.heap.size + 1, 3, none⟩ = some (.int .u64 b3))
  (go_keep)
  (first
   | (refine step_app_u8 (B := w.heap.size + 2) (by rfl) (.tmp 7) (.tmp 9) (by rfl) _ _ l1 l2 (by rfl) (by rfl) hv1'' hv2' (by omega) hz2 ?_; intro v3 w3 hv3 hb3 _ _; have hc3a := fun o => hb3.cell (p := ⟨w.heap.size, o, none⟩) (show w.heap.size < w.heap.size + 2 by omega); have hc3b := fun o => hb3.cell (p := ⟨w.heap.size + 1, o, none⟩) (show w.heap.size + 1 < w.heap.size + 2 by omega))
   | (go_at_call 62; (with_reducible refine (K1.out _).mono ?_); rintro e w1 ⟨v1, rfl, hv1, hb1⟩; obtain ⟨hc1, -⟩ := bcell hb1; have hc1a := fun o => hc1 w.heap.size o (by simp; omega); have hc1b := fun o => hc1 (w.heap.size + 1) o (by simp); clear hc1; have hv1' := hv1.mono (B' := w.heap.size + 2) (by simp); have bb1 : Below w.heap.size w w1 := ((((Below.refl _ _).alloc (Nat.le_refl _) _).alloc (by simp) _).drew).trans (hb1.mono (by simp; omega)))
   | (go_at_call 62; (with_reducible refine (K2.out _).mono ?_); rintro e w2 ⟨v2, rfl, hv2, hb2⟩; obtain ⟨hc2, -⟩ := bcell hb2; have hz := hb1.size; simp at hz; have hc2a := fun o => hc2 w.heap.size o (by omega); have hc2b := fun o => hc2 (w.heap.size + 1) o (by omega); clear hc2; have hv1'' := hv1'.below hb2; have hv2' := hv2.ri; have bb2 := bb1.trans (hb2.mono bb1.size); have hz2 : w.heap.size + 2 ≤ w2.heap.size := by have := hb2.size; omega))
 have bb3 := bb2.trans (hb3.mono (by omega))
 have HV := Lib.hid hv3; clear hv3 hv2 hv2' hv1 hv1' hv1'' hc3a hc3b hc2a hc2b hc1a hc1b
 obtain ⟨n, hn⟩ : ∃ n, n = (l1 ++ l2).length := ⟨_, rfl⟩
 have n3 : n ≤ 70 := by rw [hn, List.length_append]; omega
 have n4 : 0 < n := by rw [hn, List.length_append]; omega
 obtain ⟨g, cap, rfl, -, -⟩ := HV.out.form hn.symm n4
 have O1 := OI.lit w3 5 .u8 [48, (n : Int)] (by simp)
 have R1 := HV.out.ri.below ((Below.refl _ w3).alloc (Nat.le_refl _) (.cells #[.int .u8 48, .int .u8 n] 5))
 have L2 : [48, (n : Int)].length + (l1 ++ l2).length ≤ 140737488355328 := by rw [← hn]; simp; omega
 have HN := Lib.hid hn; have HO1 := Lib.hid O1; have HR1 := Lib.hid R1; have HL2 := Lib.hid L2
 clear hn O1 R1 L2
 go_wp2_with (at_builtin; refine app_u8 (B := w3.heap.size) rfl (.tmp 14) (.tmp 15) rfl _ _ [48, (n : Int)] (l1 ++ l2) rfl rfl HO1.out HR1.out HL2.out (by simp) ?_; intro v4 w4 hv4 hb4 _ _)
 go_ret
 refine ⟨v4, rfl, ?_, bb3.trans ((((Below.refl _ _).alloc (Nat.le_refl _) _).trans hb4).mono bb3.size)⟩
 have h := hv4.mono bb3.size
 rw [HN.out] at h
 exact h
end Go.Proofs.YtdcganigfihkjaaGreatDoor
/- Contracts of the layer der: what is read. -/
namespace Go.Proofs.YtdcganigfihkjaaGreatDoor
open Go.RowKit Go.Chr
def Far (g B : Nat) (v : Value) : Prop := ∀ A n c, v = .slice (some A) n c → A.block ≠ g ∧ A.block < B
def IsR (w : World) (g B : Nat) (l : List Int) : Prop := ∃ v, Blk w g 58 #[v] ∧ RI w .u8 v l ∧ Far g B v
def But (g : Nat) (w w' : World) : Prop := w.grownBy w' (some g)
def wrongV : List PanicEntry := [{ v := .iface 62 (.agg #[]), recovered := false }]
def RdYes (g B : Nat) (v : Value) (l : List Int) (w : World) (e : Ending) (w' : World) : Prop := e = .returned v ∧ IsR w' g B l ∧ But g w w'
def RdNo (g : Nat) (w : World) (e : Ending) (w' : World) : Prop := e = .panicked wrongV ∧ But g w w'
theorem ri_but {w w' : World} {g : Nat} {v : Value} {l : List Int} (h : RI w .u8 v l) (hg : ∀ A n c, v = .slice (some A) n c → A.block ≠ g) (hb : But g w w') : RI w' .u8 v l := by
 obtain ⟨A, c, rfl, hc, hr⟩ := h
 refine ⟨A, c, rfl, hc, hr.1, fun hn => ?_⟩
 obtain ⟨ad, rfl, hbl, hcell⟩ := hr.2 hn
 refine ⟨ad, rfl, Nat.lt_of_lt_of_le hbl hb.size, fun j u hj => ?_⟩
 rw [← hcell j u hj]
 refine World.cell?_of_block (hb.block _ (by rw [block_of_add]; exact hbl) ?_)
 rw [block_of_add]
 intro e
 exact hg ad _ _ rfl (by injection e)
set_option maxRecDepth 100000 in
set_option maxHeartbeats 1000000 in
theorem byte_no (g B : Nat) (w : World) (h : IsR w g B []) : Calls Tryz.prog 39 #[.pointer (some ⟨g, 0, none⟩)] w (RdNo g w) := by
 obtain ⟨v, hb, ⟨A, c, rfl, hc, hr⟩, hne⟩ := h
 have q1 := hb.cell 0
 simp at q1
 have H := Lib.hid hb; clear hb
 go_enter Tryz.func39, Tryz.ntmps39
 go_wp2
 exact ⟨rfl, rfl, World.grownBy.refl w _⟩
theorem Far.cut {g B : Nat} {A : Option Addr} {n c i n' c' : Nat} (h : Far g B (.slice A n c)) : Far g B (.slice (if c = i then A else A.map (·.add i)) n' c') := by
 intro D m d e
 injection e with e1 e2 e3
 split at e1
 ·subst e1; exact h D n c rfl
 ·rcases A with _ | A
  ·cases e1
  ·injection e1 with e1
   subst e1
   rw [block_of_add]; exact h A n c rfl
set_option maxRecDepth 100000 in
set_option maxHeartbeats 1000000 in
theorem byte_yes (g B : Nat) (x : Int) (r : List Int) (w : World) (h : IsR w g B (x :: r)) (hlen : r.length ≤ 1000000000) :
  Calls Tryz.prog 39 #[.pointer (some ⟨g, 0, none⟩)] w (RdYes g B (.int .u8 x) r w) := by
 obtain ⟨v, hb, hr, hne⟩ := h
 have hr' := hr
 obtain ⟨A, c, rfl, hc, -⟩ := hr
 obtain ⟨-, ad, x', rfl, hx, cell0⟩ := hr'.at_ (i := 0) (by simp)
 obtain rfl : x' = x := by simpa using hx.symm
 have cell0' : w.cell? ad = some (.int .u8 x') := cell0
 have q1 := hb.cell 0
 have q3 := hb.frozen 0
 obtain ⟨n, hn⟩ : ∃ n, n = r.length := ⟨_, rfl⟩
 have hl : (x' :: r).length = n + 1 := by rw [hn]; rfl
 rw [hl] at hr' hne q1 hb hc
 have hcut := hr'.slice_ (i := 1) (j := n + 1) (by omega) (Nat.le_refl _)
 have e2 : ((x' :: r).drop 1).take (n + 1 - 1) = r := by rw [hn]; simp
 rw [e2, Nat.add_sub_cancel] at hcut
 have i1 : ((n : Int) + 1 == 0) = false := by simp; omega
 have i2 : (0 : Int) < (n : Int) + 1 := by omega
 have hfar := hne.cut (i := 1) (n' := n) (c' := c - 1)
 have hA : (some ad).map (·.add 1) = some ⟨ad.block, ad.off + 1, none⟩ := rfl
 rw [hA] at hcut hfar
 obtain ⟨V, hV⟩ : ∃ V, V = (if c = 1 then some ad else some (⟨ad.block, ad.off + 1, none⟩ : Addr)) := ⟨_, rfl⟩
 rw [← hV] at hcut hfar
 have hset := hb.set_ 0 (.slice V n (c - 1))
 simp at q1
 have HC := Lib.hid hcut; have HF := Lib.hid hfar; have HS := Lib.hid hset
 have hpost : RdYes g B (.int .u8 x') r w (.returned (.int .u8 x')) (w.setCell ⟨g, 0, none⟩ (.slice V n (c - 1))) :=
  ⟨rfl, ⟨_, HS.out, ri_but HC.out (fun A' n' c' e => (HF.out A' n' c' e).1) (gb_set (World.grownBy.refl w _) rfl _), HF.out⟩, gb_set (World.grownBy.refl w _) rfl _⟩
 have HP := Lib.hid hpost
 clear hpost hb hcut hfar hset hx hr' hne e2 hn cell0 hl hA HC HF HS
 by_cases hc1 : c = 1
 ·rw [if_pos hc1] at hV
  subst hV
  go_enter Tryz.func39, Tryz.ntmps39
  go_wp2
  go_ret
  have := HP.out
  subst hc1
  exact this
 ·rw [if_neg hc1] at hV
  subst hV
  go_enter Tryz.func39, Tryz.ntmps39
  go_wp2
  go_ret
  exact HP.out
set_option maxRecDepth 100000 in
set_option maxHeartbeats 1000000 in
theorem must_yes (g B : Nat) (x : Int) (r : List Int) (w : World) (h : IsR w g B (x :: r)) (hlen : r.length ≤ 1000000000) :
  Calls Tryz.prog 38 #[.pointer (some ⟨g, 0, none⟩), .int .u8 x] w (RdYes g B (.tuple #[]) r w) := by
 have hx : (x != x) = false := by simp
 go_enter Tryz.func38, Tryz.ntmps38
 go_wp2_with fail
 refine (byte_yes g B x r w h hlen).mono ?_
 rintro e w1 ⟨rfl, hr, hb⟩
 go_wp2
 go_end0
 exact ⟨rfl, hr, hb⟩
set_option maxRecDepth 100000 in
set_option maxHeartbeats 1000000 in
theorem must_no (g B : Nat) (x : Int) (l : List Int) (w : World) (h : IsR w g B l) (hlen : l.length ≤ 1000000000) (hne : l.head? ≠ some x) :
  Calls Tryz.prog 38 #[.pointer (some ⟨g, 0, none⟩), .int .u8 x] w (RdNo g w) := by
 rcases l with _ | ⟨y, r⟩
 ·go_enter Tryz.func38, Tryz.ntmps38
  go_wp2_with fail
  refine (byte_no g B w h).mono ?_
  rintro e w1 ⟨rfl, hb⟩
  exact ⟨rfl, rfl, hb⟩
 ·have hx : (y != x) = true := by
   simp at hne ⊢; exact hne
  clear hne
  go_enter Tryz.func38, Tryz.ntmps38
  go_wp2_with fail
  refine (byte_yes g B y r w h (by simp at hlen; omega)).mono ?_
  rintro e w1 ⟨rfl, hr, hb⟩
  go_wp2
  exact ⟨rfl, rfl, hb⟩
theorem IsR.below {w w' : World} {g B : Nat} {l : List Int} (h : IsR w g B l) (hb : Below w.heap.size w w') : IsR w' g B l := by
 obtain ⟨v, h1, h2, h3⟩ := h
 exact ⟨v, h1.below hb h1.lt, h2.below hb, h3⟩
theorem But.below {w w' : World} {g : Nat} (h : But g w w') {x : World} (hb : Below w'.heap.size w' x) : But g w x := gb_below h hb
theorem But.of_below {w w' : World} (g : Nat) (h : Below w.heap.size w w') : But g w w' := below_gb h _
theorem But.trans {a b c : World} {g : Nat} (h : But g a b) (k : But g b c) : But g a c := World.grownBy.trans h k
theorem IsR.but {w w' : World} {g B q : Nat} {l : List Int} (h : IsR w g B l) (hq : B ≤ q) (hqg : g ≠ q) (hb : w.grownBy w' (some q)) : IsR w' g B l := by
 obtain ⟨v, h1, h2, h3⟩ := h
 refine ⟨v, h1.grown hb (by simpa using hqg), ?_, h3⟩
 exact ri_but (g := q) h2 (fun A n c e => by have := (h3 A n c e).2; omega) hb
theorem But.new {g q : Nat} {w x y : World} (h : But g w x) (hx : x.grownBy y (some q)) (hq : w.heap.size ≤ q) : But g w y :=
 ⟨hx.os.trans h.os, hx.tape.trans h.tape, hx.output.trans h.output, Nat.le_trans h.size hx.size, fun k hk hne =>
  (hx.block k (Nat.lt_of_lt_of_le hk h.size) (by simp; omega)).trans (h.block k hk hne)⟩
set_option maxRecDepth 100000 in
set_option maxHeartbeats 1000000 in
theorem integer_no1 (g B : Nat) (l : List Int) (w : World) (h : IsR w g B l) (hlen : l.length ≤ 1000000000) (hne : l.head? ≠ some 2) :
  Calls Tryz.prog 40 #[.pointer (some ⟨g, 0, none⟩)] w (RdNo g w) := by
 have HN := Lib.hid hne; clear hne
 go_enter Tryz.func40, Tryz.ntmps40
 go_wp2_with fail
 refine (must_no g B 2 l _ (h.below ((Below.refl _ _).alloc (Nat.le_refl _) _)) hlen HN.out).mono ?_
 rintro e w1 ⟨rfl, hb⟩
 exact ⟨rfl, rfl, (But.of_below g ((Below.refl _ _).alloc (Nat.le_refl _) _)).trans hb⟩
set_option maxRecDepth 100000 in
set_option maxHeartbeats 1000000 in
theorem integer_no2 (g B : Nat) (w : World) (h : IsR w g B [2]) :
  Calls Tryz.prog 40 #[.pointer (some ⟨g, 0, none⟩)] w (RdNo g w) := by
 go_enter Tryz.func40, Tryz.ntmps40
 go_wp2_with fail
 refine (must_yes g B 2 [] _ (h.below ((Below.refl _ _).alloc (Nat.le_refl _) _)) (by simp)).mono ?_
 rintro e w1 ⟨rfl, hr, hb⟩
 go_wp2_with fail
 refine (byte_no g B w1 hr).mono ?_
 rintro e w2 ⟨rfl, hb2⟩
 exact ⟨rfl, rfl, ((But.of_below g ((Below.refl _ _).alloc (Nat.le_refl _) _)).trans hb).trans hb2⟩
set_option maxRecDepth 100000 in
set_option maxHeartbeats 2000000 in
theorem integer_no3 (g B : Nat) (n : Int) (r : List Int) (w : World) (h : IsR w g B (2 :: n :: r)) (hn0 : 0 ≤ n) (hn1 : n < 256) (hlen : r.length ≤ 1000000) (hbad : n < 1 ∨ 33 < n ∨ (r.length : Int) < n) :
  Calls Tryz.prog 40 #[.pointer (some ⟨g, 0, none⟩)] w (RdNo g w) := by
 have HB := Lib.hid hbad; clear hbad
 go_enter Tryz.func40, Tryz.ntmps40
 go_wp2_with fail
 refine (must_yes g B 2 (n :: r) _ (h.below ((Below.refl _ _).alloc (Nat.le_refl _) _)) (by simp; omega)).mono ?_
 rintro e w1 ⟨rfl, hr, hb⟩
 go_wp2_with fail
 refine (byte_yes g B n r w1 hr (by omega)).mono ?_
 rintro e w2 ⟨rfl, hr2, hb2⟩
 have hbut := ((But.of_below g ((Below.refl _ _).alloc (Nat.le_refl _) _)).trans hb).trans hb2
 obtain ⟨v, hblk, ⟨A, c, rfl, hc, -⟩, -⟩ := hr2
 have q1 := hblk.cell 0
 simp at q1
 clear hr hb hb2 hblk
 rcases HB.out with h1 | h1 | h1
 ·go_wp2
  exact ⟨rfl, rfl, hbut⟩
 ·have h2 : ¬ (n < 1) := by omega
  go_wp2
  exact ⟨rfl, rfl, hbut⟩
 ·by_cases h2 : n < 1
  ·go_wp2
   exact ⟨rfl, rfl, hbut⟩
  ·by_cases h3 : 33 < n
   ·go_wp2
    exact ⟨rfl, rfl, hbut⟩
   ·go_wp2
    exact ⟨rfl, rfl, hbut⟩
set_option maxRecDepth 100000 in
set_option maxHeartbeats 4000000 in
theorem integer_no4 (g B m : Nat) (r : List Int) (w : World) (h : IsR w g B (2 :: (m : Int) :: r)) (hlen : r.length ≤ 1000000) (hm1 : 1 ≤ m) (hm2 : m ≤ 33) (hm3 : m ≤ r.length) (hbad : badI (r.take m)) :
  Calls Tryz.prog 40 #[.pointer (some ⟨g, 0, none⟩)] w (RdNo g w) := by
 have HB := Lib.hid hbad; clear hbad
 go_enter Tryz.func40, Tryz.ntmps40
 go_wp2_with fail
 refine (must_yes g B 2 (m :: r) _ (h.below ((Below.refl _ _).alloc (Nat.le_refl _) _)) (by simp; omega)).mono ?_
 rintro e w1 ⟨rfl, hr, hb⟩
 go_wp2_with fail
 refine (byte_yes g B m r w1 hr (by omega)).mono ?_
 rintro e w2 ⟨rfl, hr2, hb2⟩
 have hbut := ((But.of_below g ((Below.refl _ _).alloc (Nat.le_refl _) _)).trans hb).trans hb2
 obtain ⟨v, hblk, hri, hfar⟩ := hr2
 have hri' := hri
 obtain ⟨A, c, rfl, hc, -⟩ := hri
 have q1 := hblk.cell 0
 have q3 := hblk.frozen 0
 simp at q1
 have t1 := hri'.take (m := m) hm3
 have t2 := hri'.slice_ (i := m) (j := r.length) hm3 (Nat.le_refl _)
 obtain ⟨-, ad, x0, rfl, hx0, c0⟩ := t1.at_ (i := 0) (by simp; omega)
 have c0' : w2.cell? ad = some (.int .u8 x0) := c0
 have g0 : (r.take m).getD 0 0 = x0 := by simp [List.getD, hx0]
 have hadg : ad.block ≠ g := (hfar ad _ _ rfl).1
 have q5 : ∀ X, (w2.setCell ⟨g, 0, none⟩ X).cell? ad = some (.int .u8 x0) := fun X =>
  (World.cell?_setCell_other w2 ⟨g, 0, none⟩ ad X (fun e => hadg (congrArg Addr.block e).symm)).trans c0'
 have q6 : 1 < m → ∃ x1, (r.take m).getD 1 0 = x1 ∧ ∀ X, (w2.setCell ⟨g, 0, none⟩ X).cell? ⟨ad.block, ad.off + 1, none⟩ = some (.int .u8 x1) := by
  intro h1
  obtain ⟨-, ad', x1, e, hx1, c1⟩ := t1.at_ (i := 1) (by simp; omega)
  injection e with e
  subst e
  exact ⟨x1, by simp [List.getD, hx1], fun X => (World.cell?_setCell_other w2 ⟨g, 0, none⟩ ⟨ad.block, ad.off + 1, none⟩ X (fun e => hadg (congrArg Addr.block e).symm)).trans c1⟩
 have i1 : (m : Int) < 1 ↔ False := ⟨fun h => by omega, False.elim⟩
 have i2 : (33 : Int) < m ↔ False := ⟨fun h => by omega, False.elim⟩
 have i3 : (r.length : Int) < m ↔ False := ⟨fun h => by omega, False.elim⟩
 have i4 : (m : Int) ≤ r.length := by omega
 have i5 : (m : Int) ≤ c := by omega
 have i6 : (r.length : Int) ≤ c := by omega
 have i7 : (0 : Int) < m := by omega
 have HB2 := HB.out
 unfold badI at HB2
 rw [g0] at HB2
 have hml : (r.take m).length = m := by simp; omega
 rw [hml] at HB2
 have HBUT := Lib.hid hbut; have HQ6 := Lib.hid q6; have HG0 := Lib.hid g0
 clear t1 t2 hr hri' hb hb2 hbut hblk hfar hx0 g0 c0 q6 hml
 rcases HB2 with h1 | ⟨h1, h2, h3⟩ | ⟨h1, h2⟩
 ·have d1 : decide ((128 : Int) ≤ x0) = true := by simpa using h1
  go_wp2_with fail
  all_goals exact ⟨rfl, rfl, gb_set HBUT.out rfl _⟩
 ·obtain ⟨x1, g1, q7⟩ := HQ6.out h1
  rw [g1] at h3
  have d1 : decide ((128 : Int) ≤ x0) = false := by simp; omega
  have d2 : (x0 == 0) = true := by simpa using h2
  have d3 : (1 : Int) < m := by omega
  clear h1 h2 g1
  go_wp2_with fail
  all_goals exact ⟨rfl, rfl, gb_set HBUT.out rfl _⟩
 ·obtain ⟨x1, g1, q7⟩ := HQ6.out (by omega)
  subst h1
  have d2 : (x0 == 0) = false := by simpa using h2
  have d4 : (x0 != 0) = true := by simpa using h2
  by_cases h128 : (128 : Int) ≤ x0
  ·have d1 : decide ((128 : Int) ≤ x0) = true := by simpa using h128
   clear g1 h128
   go_wp2_with fail
   all_goals exact ⟨rfl, rfl, gb_set HBUT.out rfl _⟩
  ·have d1 : decide ((128 : Int) ≤ x0) = false := by simpa using h128
   clear g1 h128
   go_wp2_with fail
   all_goals exact ⟨rfl, rfl, gb_set HBUT.out rfl _⟩
end Go.Proofs.YtdcganigfihkjaaGreatDoor
/- Contracts of the layer der: an integer is read. -/
namespace Go.Proofs.YtdcganigfihkjaaGreatDoor
open Go.RowKit Go.Chr
set_option maxRecDepth 100000 in
set_option maxHeartbeats 8000000 in
theorem integer_yes32 (g B m : Nat) (r : List Int) (w : World) (hB : B ≤ w.heap.size) (h : IsR w g B (2 :: (m : Int) :: r)) (hlen : r.length ≤ 1000000) (hby : ∀ x ∈ r, 0 ≤ x ∧ x < 256) (hm1 : 1 ≤ m) (hm2' : m ≤ 32) (hm3 : m ≤ r.length) (hok : ¬ badI (r.take m)) :
  Calls Tryz.prog 40 #[.pointer (some ⟨g, 0, none⟩)] w (RdYes g B (.agg ((natB (r.take m)).map (Value.int .u64)).toArray) (r.drop m) w) := by
 have HB := Lib.hid hok; clear hok
 have HLE := Lib.hid hB; clear hB
 have hm2 : m ≤ 33 := by omega
 have hgl : g < w.heap.size := by obtain ⟨_, hx, _⟩ := h; exact hx.lt
 go_enter Tryz.func40, Tryz.ntmps40
 go_wp2_with fail
 refine (must_yes g B 2 (m :: r) _ (h.below ((Below.refl _ _).alloc (Nat.le_refl _) _)) (by simp; omega)).mono ?_
 rintro e w1 ⟨rfl, hr, hb⟩
 go_wp2_with fail
 refine (byte_yes g B m r w1 hr (by omega)).mono ?_
 rintro e w2 ⟨rfl, hr2, hb2⟩
 have hbut := ((But.of_below g ((Below.refl _ _).alloc (Nat.le_refl _) _)).trans hb).trans hb2
 obtain ⟨v, hblk, hri, hfar⟩ := hr2
 have hri' := hri
 obtain ⟨A, c, rfl, hc, -⟩ := hri
 have q1 := hblk.cell 0
 have q3 := hblk.frozen 0
 simp at q1
 have t1 := hri'.take (m := m) hm3
 have t2 := hri'.slice_ (i := m) (j := r.length) hm3 (Nat.le_refl _)
 obtain ⟨-, ad, x0, rfl, hx0, c0⟩ := t1.at_ (i := 0) (by simp; omega)
 have c0' : w2.cell? ad = some (.int .u8 x0) := c0
 have g0 : (r.take m).getD 0 0 = x0 := by simp [List.getD, hx0]
 have hadg : ad.block ≠ g := (hfar ad _ _ rfl).1
 have q5 : ∀ X, (w2.setCell ⟨g, 0, none⟩ X).cell? ad = some (.int .u8 x0) := fun X =>
  (World.cell?_setCell_other w2 ⟨g, 0, none⟩ ad X (fun e => hadg (congrArg Addr.block e).symm)).trans c0'
 have q6 : 1 < m → ∃ x1, (r.take m).getD 1 0 = x1 ∧ ∀ X, (w2.setCell ⟨g, 0, none⟩ X).cell? ⟨ad.block, ad.off + 1, none⟩ = some (.int .u8 x1) := by
  intro h1
  obtain ⟨-, ad', x1, e, hx1, c1⟩ := t1.at_ (i := 1) (by simp; omega)
  injection e with e
  subst e
  exact ⟨x1, by simp [List.getD, hx1], fun X => (World.cell?_setCell_other w2 ⟨g, 0, none⟩ ⟨ad.block, ad.off + 1, none⟩ X (fun e => hadg (congrArg Addr.block e).symm)).trans c1⟩
 have i1 : (m : Int) < 1 ↔ False := ⟨fun h => by omega, False.elim⟩
 have i2 : (33 : Int) < m ↔ False := ⟨fun h => by omega, False.elim⟩
 have i3 : (r.length : Int) < m ↔ False := ⟨fun h => by omega, False.elim⟩
 have i4 : (m : Int) ≤ r.length := by omega
 have i5 : (m : Int) ≤ c := by omega
 have i6 : (r.length : Int) ≤ c := by omega
 have i7 : (0 : Int) < m := by omega
 have hml : (r.take m).length = m := by simp; omega
 have HB2 := HB.out
 unfold badI at HB2
 rw [g0, hml] at HB2
 have htests : decide ((1 : Int) < m) = false ∨ (x0 == 0) = false ∨ (decide ((1 : Int) < m) = true ∧ (1 : Int) < m ∧ (x0 == 0) = true ∧ ∃ x1, (∀ X, (w2.setCell ⟨g, 0, none⟩ X).cell? ⟨ad.block, ad.off + 1, none⟩ = some (.int .u8 x1)) ∧ decide (x1 < (128 : Int)) = false) := by
  by_cases h1 : 1 < m
  ·by_cases h2 : x0 = 0
   ·obtain ⟨x1, g1, q7⟩ := q6 h1
    rw [g1] at HB2
    refine .inr (.inr ⟨by simp; omega, by omega, by simpa using h2, x1, q7, ?_⟩)
    simp; omega
   ·exact .inr (.inl (by simpa using h2))
  ·exact .inl (by simp; omega)
 have d1 : decide ((128 : Int) ≤ x0) = false := by simp; omega
 have d6 : ((m : Int) == 33) = false := by simp; omega
 have hmk := mk_u8 (32 - m) (by omega)
 rw [show ((32 - m : Nat) : Int) = 32 - (m : Int) by omega] at hmk
 obtain ⟨L, hL⟩ : ∃ L, L = List.replicate (32 - m) (0 : Int) ++ r.take m := ⟨_, rfl⟩
 have hnat : natB (r.take m) = leN L.reverse := by unfold natB; rw [hml, hL]
 have hLl : L.length = 32 := by rw [hL, List.length_append, hml, List.length_replicate]; omega
 have hLb : ∀ x ∈ L, 0 ≤ x ∧ x < 256 := by
  intro x hx
  rw [hL, List.mem_append] at hx
  rcases hx with hx | hx
  ·have := List.eq_of_mem_replicate hx; omega
  ·exact hby x (List.mem_of_mem_take hx)
 have hx : ∀ X c', m ≤ c' → RI (w2.setCell ⟨g, 0, none⟩ X) .u8 (.slice (some ad) m c') (r.take m) := by
  intro X c' hc'
  obtain ⟨A1, c1, e, -, hrd⟩ := ri_but (g := g) t1 (fun A' n' c' e => by injection e with e; injection e with e; subst e; exact hadg) (gb_set (p := ⟨g, 0, none⟩) (World.grownBy.refl w2 _) rfl X)
  injection e with e1 e2 e3
  subst e1
  exact ⟨some ad, c', by rw [hml], by rw [hml]; exact hc', hrd⟩
 have hsz : ∀ X, (w2.setCell ⟨g, 0, none⟩ X).heap.size = w2.heap.size := fun X => by simp [World.setCell]
 have KC : ∀ X c', m ≤ c' → Calls Tryz.prog 68 #[.slice (some ⟨w2.heap.size + 1, 0, none⟩) 2 2] (((w2.setCell ⟨g, 0, none⟩ X).alloc (.cells (Array.replicate (32 - m) (.int .u8 0)) 5)).alloc (.cells #[.slice (some ⟨w2.heap.size, 0, none⟩) (32 - m) (32 - m), .slice (some ad) m c'] 22))
   (RetB (((w2.setCell ⟨g, 0, none⟩ X).alloc (.cells (Array.replicate (32 - m) (.int .u8 0)) 5)).alloc (.cells #[.slice (some ⟨w2.heap.size, 0, none⟩) (32 - m) (32 - m), .slice (some ad) m c'] 22)) L) := by
  intro X c' hc'
  have z := OI.of_ib (B := 0) (IB.zeros (w2.setCell ⟨g, 0, none⟩ X) 5 .u8 (32 - m)) (Nat.zero_le _) (by simp [maxLen]; omega)
  rw [List.length_replicate, hsz] at z
  have y := (hx X c' hc').below ((Below.refl _ _).alloc (Nat.le_refl _) (.cells (Array.replicate (32 - m) (.int .u8 0)) 5))
  have k := RR.two 22 z.ri y
  have hsz2 : ((w2.setCell ⟨g, 0, none⟩ X).alloc (.cells (Array.replicate (32 - m) (.int .u8 0)) 5)).heap.size = w2.heap.size + 1 := by simp [World.setCell]
  rw [hsz2] at k
  have hfl : [List.replicate (32 - m) (0 : Int), r.take m].flatten = L := by rw [hL]; simp
  have := concat_any _ _ _ k (by rw [hfl, hLl]; omega) (by simp)
  rw [hfl] at this
  exact this
 have hbut1 : But g (w.alloc (.cells #[.int .u64 0, .int .u64 0, .int .u64 0, .int .u64 0] 27)) w2 := hb.trans hb2
 have hbox : Blk w2 w.heap.size 27 #[.int .u64 0, .int .u64 0, .int .u64 0, .int .u64 0] := (Blk.new w 27 _).grown hbut1 (by simp; omega)
 have hR1 : c = m → IsR (w2.setCell ⟨g, 0, none⟩ (.slice (some ad) (r.length - m) 0)) g B (r.drop m) := by
  intro e
  rw [if_pos e] at t2
  have e2 : (r.drop m).take (r.length - m) = r.drop m := List.take_of_length_le (by simp)
  have e3 : c - m = 0 := by omega
  rw [e2, e3] at t2
  exact ⟨_, hblk.set_ 0 _, ri_but (g := g) t2 (fun A' n' c' e => by injection e with e; injection e with e; subst e; exact hadg) (gb_set (p := ⟨g, 0, none⟩) (World.grownBy.refl w2 _) rfl _),
   fun A' n' c' e => by injection e with e; injection e with e; subst e; exact hfar ad _ _ rfl⟩
 have hR2 : c ≠ m → IsR (w2.setCell ⟨g, 0, none⟩ (.slice (some (ad.add m)) (r.length - m) (c - m))) g B (r.drop m) := by
  intro e
  rw [if_neg e] at t2
  have e2 : (r.drop m).take (r.length - m) = r.drop m := List.take_of_length_le (by simp)
  rw [e2] at t2
  exact ⟨_, hblk.set_ 0 _, ri_but (g := g) t2 (fun A' n' c' e => by injection e with e; injection e with e; subst e; exact (fun h => hadg ((block_of_add ad m).symm.trans h))) (gb_set (p := ⟨g, 0, none⟩) (World.grownBy.refl w2 _) rfl _),
   fun A' n' c' e => by injection e with e; injection e with e; subst e; have := hfar ad _ _ rfl; rw [← block_of_add ad m] at this; exact this⟩
 have hw2 : w.heap.size < w2.heap.size := hbox.lt
 have HKC := Lib.hid KC; have HBUT := Lib.hid hbut; have HBOX := Lib.hid hbox; have HR1 := Lib.hid hR1; have HR2 := Lib.hid hR2; have HNAT := Lib.hid hnat; have HLL := Lib.hid hLl; have HLB := Lib.hid hLb; have HSZ := Lib.hid hsz; have HGL := Lib.hid hgl; have HW2 := Lib.hid hw2
 clear t1 t2 hr hri' hb hb2 hbut hblk hfar hx0 g0 c0 q6 HB2 hx KC hbox hR1 hR2 hnat hLl hLb hL hsz hbut1 hml hgl hw2 hby
 rcases htests with d3 | d2 | ⟨d3, d3', d2, x1, q7, d5⟩
 all_goals go_wp2_with fail
 all_goals
  refine (HKC.out _ _ ?_).mono ?_
  ·omega
  rintro e w3 ⟨v3, rfl, hv3, hb3⟩
  go_wp2_with fail
  refine (big_any v3 _ w3 hv3.ri HLB.out HLL.out).mono ?_
  rintro e w4 ⟨rfl, hb4⟩
  obtain ⟨y0, y1, y2, y3, hy⟩ : ∃ y0 y1 y2 y3, leN L.reverse = [y0, y1, y2, y3] := ⟨_, _, _, _, rfl⟩
  rw [hy]
  simp only [List.map_cons, List.map_nil]
  have hb5 := hb3.trans (hb4.mono hb3.size)
  have hb6 := (((Below.refl _ _).alloc (Nat.le_refl _) _).alloc (by simp) _).trans (hb5.mono (by simp; omega))
  have hisr := (show IsR _ g B (r.drop m) by first | exact HR1.out (by assumption) | exact HR2.out (by assumption)).below hb6
  have hbx := (HBOX.out.far (p := ⟨g, 0, none⟩) (by simp; have := HGL.out; omega) _).below hb6 (by rw [HSZ.out]; exact HW2.out)
  have hbb := gb_below (gb_set (p := ⟨g, 0, none⟩) HBUT.out rfl _) hb6
  have hlt4 : w.heap.size < w4.heap.size := hbx.lt
  have n4 : w.heap.size ≠ w4.heap.size := Nat.ne_of_lt hlt4
  have n4' : w4.heap.size ≠ w.heap.size := fun h => n4 h.symm
  have r2 := fun o => (hbx.alloc o).cell
  have r3 := fun o => (hbx.alloc o).frozen
  have HY := Lib.hid hy; clear hy
  have HBX := Lib.hid hbx; clear hbx
  have HISR := Lib.hid hisr; clear hisr
  have HBB := Lib.hid hbb; clear hbb
  clear hb3 hb4 hb5 hb6 hv3
  clear hlen hm1 hm2' hm3 HB hm2 hadg q5 i1 i2 i3 i4 i5 i6 i7 d1 d6 hmk hlt4 HKC HBOX HR1 HR2 HLL HLB HSZ HW2
  go_wp2
  have hfin0 := HBX.out.alloc (.cells #[.int .u64 y0, .int .u64 y1, .int .u64 y2, .int .u64 y3] 27)
  have hfin := (((hfin0.set_ 0 (.int .u64 y0)).set_ 1 (.int .u64 y1)).set_ 2 (.int .u64 y2)).set_ 3 (.int .u64 y3)
  refine bodyPost_ret (results_blk (d := .array 4 25) Tryz.results40 rfl hfin rfl Tryz.underlying27 (by kernel_rfl)) rfl ⟨by rw [HNAT.out, HY.out]; rfl, ?_⟩
  refine ⟨HISR.out.but HLE.out (Nat.ne_of_lt HGL.out) ?_, But.new (q := w.heap.size) HBB.out ?_ (Nat.le_refl _)⟩ <;>
  exact gb_set (p := ⟨w.heap.size, 3, none⟩) (gb_set (p := ⟨w.heap.size, 2, none⟩) (gb_set (p := ⟨w.heap.size, 1, none⟩) (gb_set (p := ⟨w.heap.size, 0, none⟩) (gb_alloc (World.grownBy.refl _ _) _) rfl _) rfl _) rfl _) rfl _
end Go.Proofs.YtdcganigfihkjaaGreatDoor
/- Contracts of the layer der: an integer of 33 bytes is read. -/
namespace Go.Proofs.YtdcganigfihkjaaGreatDoor
open Go.RowKit Go.Chr
theorem leN_app (a b : List Int) (h : 32 ≤ a.length) : leN (a ++ b) = leN a := by
 have e : ∀ k, k < 32 → (a ++ b).getD k 0 = a.getD k 0 := by
  intro k hk
  simp only [List.getD]
  rw [List.getElem?_append_left (by omega)]
 simp only [leN, leTo, limbTo, Nat.reduceMul, Nat.reduceSub, Nat.reduceLeDiff, Nat.min_eq_left, lt8]
 have e2 : ∀ i j, 8 * j + i < 32 → (a ++ b).getD (8 * j + i) 0 = a.getD (8 * j + i) 0 := fun i j h => e _ h
 simp (disch := omega) only [Nat.reduceMul, Nat.reduceAdd, e]
set_option maxRecDepth 100000 in
set_option maxHeartbeats 8000000 in
theorem integer_yes33 (g B m : Nat) (r : List Int) (w : World) (hB : B ≤ w.heap.size) (h : IsR w g B (2 :: (m : Int) :: r)) (hlen : r.length ≤ 1000000) (hby : ∀ x ∈ r, 0 ≤ x ∧ x < 256) (hm0 : m = 33) (hm3 : m ≤ r.length) (hok : ¬ badI (r.take m)) :
  Calls Tryz.prog 40 #[.pointer (some ⟨g, 0, none⟩)] w (RdYes g B (.agg ((natB (r.take m)).map (Value.int .u64)).toArray) (r.drop m) w) := by
 have HB := Lib.hid hok; clear hok
 have HLE := Lib.hid hB; clear hB
 have hm2 : m ≤ 33 := by omega
 have hm1 : 1 ≤ m := by omega
 have hm2' : m - 1 = 32 := by omega
 have hgl : g < w.heap.size := by obtain ⟨_, hx, _⟩ := h; exact hx.lt
 go_enter Tryz.func40, Tryz.ntmps40
 go_wp2_with fail
 refine (must_yes g B 2 (m :: r) _ (h.below ((Below.refl _ _).alloc (Nat.le_refl _) _)) (by simp; omega)).mono ?_
 rintro e w1 ⟨rfl, hr, hb⟩
 go_wp2_with fail
 refine (byte_yes g B m r w1 hr (by omega)).mono ?_
 rintro e w2 ⟨rfl, hr2, hb2⟩
 have hbut := ((But.of_below g ((Below.refl _ _).alloc (Nat.le_refl _) _)).trans hb).trans hb2
 obtain ⟨v, hblk, hri, hfar⟩ := hr2
 have hri' := hri
 obtain ⟨A, c, rfl, hc, -⟩ := hri
 have q1 := hblk.cell 0
 have q3 := hblk.frozen 0
 simp at q1
 have t1 := hri'.take (m := m) hm3
 have t2 := hri'.slice_ (i := m) (j := r.length) hm3 (Nat.le_refl _)
 obtain ⟨-, ad, x0, rfl, hx0, c0⟩ := t1.at_ (i := 0) (by simp; omega)
 have c0' : w2.cell? ad = some (.int .u8 x0) := c0
 have g0 : (r.take m).getD 0 0 = x0 := by simp [List.getD, hx0]
 have hadg : ad.block ≠ g := (hfar ad _ _ rfl).1
 have q5 : ∀ X, (w2.setCell ⟨g, 0, none⟩ X).cell? ad = some (.int .u8 x0) := fun X =>
  (World.cell?_setCell_other w2 ⟨g, 0, none⟩ ad X (fun e => hadg (congrArg Addr.block e).symm)).trans c0'
 have q6 : 1 < m → ∃ x1, (r.take m).getD 1 0 = x1 ∧ ∀ X, (w2.setCell ⟨g, 0, none⟩ X).cell? ⟨ad.block, ad.off + 1, none⟩ = some (.int .u8 x1) := by
  intro h1
  obtain ⟨-, ad', x1, e, hx1, c1⟩ := t1.at_ (i := 1) (by simp; omega)
  injection e with e
  subst e
  exact ⟨x1, by simp [List.getD, hx1], fun X => (World.cell?_setCell_other w2 ⟨g, 0, none⟩ ⟨ad.block, ad.off + 1, none⟩ X (fun e => hadg (congrArg Addr.block e).symm)).trans c1⟩
 have i1 : (m : Int) < 1 ↔ False := ⟨fun h => by omega, False.elim⟩
 have i2 : (33 : Int) < m ↔ False := ⟨fun h => by omega, False.elim⟩
 have i3 : (r.length : Int) < m ↔ False := ⟨fun h => by omega, False.elim⟩
 have i4 : (m : Int) ≤ r.length := by omega
 have i5 : (m : Int) ≤ c := by omega
 have i6 : (r.length : Int) ≤ c := by omega
 have i7 : (0 : Int) < m := by omega
 have hml : (r.take m).length = m := by simp; omega
 have HB2 := HB.out
 unfold badI at HB2
 rw [g0, hml] at HB2
 obtain ⟨x1, g1, q7⟩ := q6 (by omega)
 rw [g1] at HB2
 have x00 : x0 = 0 := by omega
 have d1 : decide ((128 : Int) ≤ x0) = false := by simp; omega
 have d2 : (x0 == 0) = true := by simpa using x00
 have d2' : (x0 != 0) = false := by simpa using x00
 have d3 : decide ((1 : Int) < m) = true := by simp; omega
 have d3' : (1 : Int) < m := by omega
 have d5 : decide (x1 < (128 : Int)) = false := by simp; omega
 have d6 : ((m : Int) == 33) = true := by simp; omega
 have d7 : (1 : Int) ≤ m := by omega
 have d8 : m ≠ 1 := by omega
 have d9 : c ≠ 1 := by omega
 have d10 : (1 : Int) ≤ c := by omega
 have d11 : ((m - 1 : Nat) : Int) = 32 := by omega
 have hmk : ∀ w, (Instr.makeSlice 22 (.int .i64 0) (.int .i64 0)).run Tryz.prog w = .ok (.slice (some ⟨w.heap.size, 0, none⟩) 0 0) (w.alloc (.cells #[] 5)) := fun w => mk_u8 0 (by omega) w
 have i9 : ¬ (r.length : Int) < 33 := by omega
 have i10 : (33 : Int) ≤ r.length := by omega
 have i11 : (33 : Int) ≤ c := by omega
 have i12 : decide ((r.length : Int) < 33) = false := by simp; omega
 obtain ⟨L, hL⟩ : ∃ L, L = (r.take m).drop 1 := ⟨_, rfl⟩
 have hLl : L.length = 32 := by rw [hL, List.length_drop, hml]; omega
 have hnat : natB (r.take m) = leN L.reverse := by
  have e : r.take m = x0 :: L := by
   rw [hL]
   cases hT : r.take m with
   | nil => rw [hT] at hml; simp at hml; omega
   | cons y ys => rw [hT] at hx0; simp at hx0; rw [hx0]; rfl
  unfold natB
  rw [hml, show 32 - m = 0 by omega, List.replicate_zero, List.nil_append, e, List.reverse_cons]
  exact leN_app _ _ (by simp [hLl])
 have hLb : ∀ x ∈ L, 0 ≤ x ∧ x < 256 := by
  intro x hx
  rw [hL] at hx
  exact hby x (List.mem_of_mem_take (List.mem_of_mem_drop hx))
 have hx : ∀ X d, 32 ≤ d → RI (w2.setCell ⟨g, 0, none⟩ X) .u8 (.slice (some ⟨ad.block, ad.off + 1, none⟩) 32 d) L := by
  intro X d hd
  obtain ⟨A1, c1, e, -, hrd⟩ := ri_but (g := g) t1 (fun A' n' c' e => by injection e with e; injection e with e; subst e; exact hadg) (gb_set (p := ⟨g, 0, none⟩) (World.grownBy.refl w2 _) rfl X)
  injection e with e1 e2 e3
  subst e1
  have y : RI (w2.setCell ⟨g, 0, none⟩ X) .u8 (.slice (some ad) m (d + 1)) (r.take m) := ⟨some ad, d + 1, by rw [hml], by rw [hml]; omega, hrd⟩
  have y2 := y.slice_ (i := 1) (j := m) (by omega) (Nat.le_refl _)
  rw [if_neg (by omega)] at y2
  have e2 : ((r.take m).drop 1).take (m - 1) = L := by rw [← hL]; exact List.take_of_length_le (by rw [hLl]; omega)
  rw [e2, hm2'] at y2
  exact y2
 have hsz : ∀ X, (w2.setCell ⟨g, 0, none⟩ X).heap.size = w2.heap.size := fun X => by simp [World.setCell]
 have KC : ∀ X d, 32 ≤ d → Calls Tryz.prog 68 #[.slice (some ⟨w2.heap.size + 1, 0, none⟩) 2 2] (((w2.setCell ⟨g, 0, none⟩ X).alloc (.cells #[] 5)).alloc (.cells #[.slice (some ⟨w2.heap.size, 0, none⟩) 0 0, .slice (some ⟨ad.block, ad.off + 1, none⟩) 32 d] 22))
   (RetB (((w2.setCell ⟨g, 0, none⟩ X).alloc (.cells #[] 5)).alloc (.cells #[.slice (some ⟨w2.heap.size, 0, none⟩) 0 0, .slice (some ⟨ad.block, ad.off + 1, none⟩) 32 d] 22)) L) := by
  intro X d hd
  have z := OI.of_ib (B := 0) (IB.zeros (w2.setCell ⟨g, 0, none⟩ X) 5 .u8 0) (Nat.zero_le _) (by simp [maxLen])
  rw [List.length_replicate, hsz] at z
  have y := (hx X d hd).below ((Below.refl _ _).alloc (Nat.le_refl _) (.cells #[] 5))
  have k := RR.two 22 z.ri y
  simp only [Array.replicate_zero, List.replicate_zero] at k
  have hsz2 : ((w2.setCell ⟨g, 0, none⟩ X).alloc (.cells #[] 5)).heap.size = w2.heap.size + 1 := by simp [World.setCell]
  rw [hsz2] at k
  have hfl : [([] : List Int), L].flatten = L := by simp
  have := concat_any _ _ _ k (by rw [hfl, hLl]; decide) (by simp)
  rw [hfl] at this
  exact this
 have hbut1 : But g (w.alloc (.cells #[.int .u64 0, .int .u64 0, .int .u64 0, .int .u64 0] 27)) w2 := hb.trans hb2
 have hbox : Blk w2 w.heap.size 27 #[.int .u64 0, .int .u64 0, .int .u64 0, .int .u64 0] := (Blk.new w 27 _).grown hbut1 (by simp; omega)
 have hR1 : c = m → IsR (w2.setCell ⟨g, 0, none⟩ (.slice (some ad) (r.length - m) 0)) g B (r.drop m) := by
  intro e
  rw [if_pos e] at t2
  have e2 : (r.drop m).take (r.length - m) = r.drop m := List.take_of_length_le (by simp)
  have e3 : c - m = 0 := by omega
  rw [e2, e3] at t2
  exact ⟨_, hblk.set_ 0 _, ri_but (g := g) t2 (fun A' n' c' e => by injection e with e; injection e with e; subst e; exact hadg) (gb_set (p := ⟨g, 0, none⟩) (World.grownBy.refl w2 _) rfl _),
   fun A' n' c' e => by injection e with e; injection e with e; subst e; exact hfar ad _ _ rfl⟩
 have hR2 : c ≠ m → IsR (w2.setCell ⟨g, 0, none⟩ (.slice (some (ad.add m)) (r.length - m) (c - m))) g B (r.drop m) := by
  intro e
  rw [if_neg e] at t2
  have e2 : (r.drop m).take (r.length - m) = r.drop m := List.take_of_length_le (by simp)
  rw [e2] at t2
  exact ⟨_, hblk.set_ 0 _, ri_but (g := g) t2 (fun A' n' c' e => by injection e with e; injection e with e; subst e; exact (fun h => hadg ((block_of_add ad m).symm.trans h))) (gb_set (p := ⟨g, 0, none⟩) (World.grownBy.refl w2 _) rfl _),
   fun A' n' c' e => by injection e with e; injection e with e; subst e; have := hfar ad _ _ rfl; rw [← block_of_add ad m] at this; exact this⟩
 have hw2 : w.heap.size < w2.heap.size := hbox.lt
 have HKC := Lib.hid KC; have HBUT := Lib.hid hbut; have HBOX := Lib.hid hbox; have HR1 := Lib.hid hR1; have HR2 := Lib.hid hR2; have HNAT := Lib.hid hnat; have HLL := Lib.hid hLl; have HLB := Lib.hid hLb; have HSZ := Lib.hid hsz; have HGL := Lib.hid hgl; have HW2 := Lib.hid hw2
 clear t1 t2 hr hri' hb hb2 hbut hblk hfar hx0 g0 c0 q6 HB2 g1 hx KC hbox hR1 hR2 hnat hLl hLb hL hsz hbut1 hml hgl hw2 hby
 subst hm0 x00
 go_wp2_with fail
 all_goals
  refine (HKC.out _ _ ?_).mono ?_
  ·omega
  rintro e w3 ⟨v3, rfl, hv3, hb3⟩
  go_wp2_with fail
  refine (big_any v3 _ w3 hv3.ri HLB.out HLL.out).mono ?_
  rintro e w4 ⟨rfl, hb4⟩
  obtain ⟨y0, y1, y2, y3, hy⟩ : ∃ y0 y1 y2 y3, leN L.reverse = [y0, y1, y2, y3] := ⟨_, _, _, _, rfl⟩
  rw [hy]
  simp only [List.map_cons, List.map_nil]
  have hb5 := hb3.trans (hb4.mono hb3.size)
  have hb6 := (((Below.refl _ _).alloc (Nat.le_refl _) _).alloc (by simp) _).trans (hb5.mono (by simp; omega))
  have hisr := (show IsR _ g B (r.drop 33) by first | exact HR1.out (by assumption) | exact HR2.out (by assumption)).below hb6
  have hbx := (HBOX.out.far (p := ⟨g, 0, none⟩) (by simp; have := HGL.out; omega) _).below hb6 (by rw [HSZ.out]; exact HW2.out)
  have hbb := gb_below (gb_set (p := ⟨g, 0, none⟩) HBUT.out rfl _) hb6
  have hlt4 : w.heap.size < w4.heap.size := hbx.lt
  have n4 : w.heap.size ≠ w4.heap.size := Nat.ne_of_lt hlt4
  have n4' : w4.heap.size ≠ w.heap.size := fun h => n4 h.symm
  have r2 := fun o => (hbx.alloc o).cell
  have r3 := fun o => (hbx.alloc o).frozen
  have HY := Lib.hid hy; clear hy
  have HBX := Lib.hid hbx; clear hbx
  have HISR := Lib.hid hisr; clear hisr
  have HBB := Lib.hid hbb; clear hbb
  clear hb3 hb4 hb5 hb6 hv3
  clear hlen hm1 hm2' hm3 HB hm2 hadg q5 i1 i2 i3 i4 i5 i6 i7 d1 d2 d2' d3 d3' d5 d6 d7 d8 d9 d10 d11 i9 i10 i11 i12 hmk hlt4 HKC HBOX HR1 HR2 HLL HLB HSZ HW2
  go_wp2
  have hfin0 := HBX.out.alloc (.cells #[.int .u64 y0, .int .u64 y1, .int .u64 y2, .int .u64 y3] 27)
  have hfin := (((hfin0.set_ 0 (.int .u64 y0)).set_ 1 (.int .u64 y1)).set_ 2 (.int .u64 y2)).set_ 3 (.int .u64 y3)
  refine bodyPost_ret (results_blk (d := .array 4 25) Tryz.results40 rfl hfin rfl Tryz.underlying27 (by kernel_rfl)) rfl ⟨by rw [HNAT.out, HY.out]; rfl, ?_⟩
  refine ⟨HISR.out.but HLE.out (Nat.ne_of_lt HGL.out) ?_, But.new (q := w.heap.size) HBB.out ?_ (Nat.le_refl _)⟩ <;>
  exact gb_set (p := ⟨w.heap.size, 3, none⟩) (gb_set (p := ⟨w.heap.size, 2, none⟩) (gb_set (p := ⟨w.heap.size, 1, none⟩) (gb_set (p := ⟨w.heap.size, 0, none⟩) (gb_alloc (World.grownBy.refl _ _) _) rfl _) rfl _) rfl _) rfl _
end Go.Proofs.YtdcganigfihkjaaGreatDoor
/- Contracts of the layer der: Decode. -/
namespace Go.Proofs.YtdcganigfihkjaaGreatDoor
open Go.RowKit Go.Chr
open Classical in
noncomputable def rdI : List Int → Option (List Int × List Int)
 | x :: n :: r => if x = 2 ∧ 1 ≤ n ∧ n ≤ 33 ∧ n ≤ r.length ∧ ¬ badI (r.take n.toNat) then some (natB (r.take n.toNat), r.drop n.toNat) else none
 | _ => none
open Classical in
theorem rdI_cons (x n : Int) (r : List Int) : rdI (x :: n :: r) = if x = 2 ∧ 1 ≤ n ∧ n ≤ 33 ∧ n ≤ r.length ∧ ¬ badI (r.take n.toNat) then some (natB (r.take n.toNat), r.drop n.toNat) else none := rfl
def RdI (g B : Nat) (o : Option (List Int × List Int)) (w : World) (e : Ending) (w' : World) : Prop :=
 match o with
 | some (a, l) => RdYes g B (.agg (a.map (Value.int .u64)).toArray) l w e w'
 | none => RdNo g w e w'
theorem rd_integer (g B : Nat) (l : List Int) (w : World) (hB : B ≤ w.heap.size) (h : IsR w g B l) (hlen : l.length ≤ 1000000) (hby : ∀ x ∈ l, 0 ≤ x ∧ x < 256) :
  Calls Tryz.prog 40 #[.pointer (some ⟨g, 0, none⟩)] w (RdI g B (rdI l) w) := by
 rcases l with _ | ⟨x, _ | ⟨n, r⟩⟩
 ·exact integer_no1 g B [] w h (by simp) (by simp)
 ·by_cases hx : x = 2
  ·subst hx; exact integer_no2 g B w h
  ·exact integer_no1 g B [x] w h (by simp) (by simpa using hx)
 ·by_cases hx : x = 2
  ·subst hx
   have hn := hby n (by simp)
   have hr : r.length ≤ 1000000 := by simp at hlen; omega
   by_cases hbad : n < 1 ∨ 33 < n ∨ (r.length : Int) < n
   ·have e : rdI (2 :: n :: r) = none := by rw [rdI_cons, if_neg]; omega
    rw [e]
    exact integer_no3 g B n r w h hn.1 hn.2 hr hbad
   ·obtain ⟨m, rfl⟩ : ∃ m : Nat, n = m := ⟨n.toNat, by omega⟩
    by_cases hb : badI (r.take m)
    ·have e : rdI (2 :: (m : Int) :: r) = none := by rw [rdI_cons, if_neg]; rw [Int.toNat_natCast]; exact fun k => k.2.2.2.2 hb
     rw [e]
     exact integer_no4 g B m r w h hr (by omega) (by omega) (by omega) hb
    ·have e : rdI (2 :: (m : Int) :: r) = some (natB (r.take m), r.drop m) := by
      rw [rdI_cons, if_pos]
      ·simp
      ·rw [Int.toNat_natCast]; exact ⟨rfl, by omega, by omega, by omega, hb⟩
     rw [e]
     have hby' : ∀ x ∈ r, 0 ≤ x ∧ x < 256 := fun x hx => hby x (by simp [hx])
     by_cases h33 : m = 33
     ·subst h33; exact integer_yes33 g B 33 r w hB h hr hby' rfl (by omega) hb
     ·exact integer_yes32 g B m r w hB h hr hby' (by omega) (by omega) (by omega) hb
  ·have e : rdI (x :: n :: r) = none := by rw [rdI_cons, if_neg]; exact fun k => hx k.1
   rw [e]
   exact integer_no1 g B _ w h (by simp at hlen ⊢; omega) (by simpa using hx)
set_option maxRecDepth 100000 in
set_option maxHeartbeats 1000000 in
theorem caught (a b d : Nat) (x0 x1 x2 x3 y0 y1 y2 y3 : Value) (t : Value) (older : List PanicEntry) (pv : Value) (u : TypeId) (w : World)
  (ha : Blk w a 27 #[x0, x1, x2, x3]) (hb : Blk w b 27 #[y0, y1, y2, y3]) (hd : Blk w d 4 #[t]) (hab : a ≠ b) (had : a ≠ d) (hbd : b ≠ d) :
  CallsD Tryz.prog 37 #[.pointer (some ⟨a, 0, none⟩), .pointer (some ⟨b, 0, none⟩), .pointer (some ⟨d, 0, none⟩)] (.panicking ({ v := .iface u pv, recovered := false } :: older)) w fun e u' w' =>
   e = .returned (.tuple #[]) ∧ u' = .panicking ({ v := .iface u pv, recovered := true } :: older) ∧
    Blk w' a 27 #[.int .u64 0, .int .u64 0, .int .u64 0, .int .u64 0] ∧ Blk w' b 27 #[.int .u64 0, .int .u64 0, .int .u64 0, .int .u64 0] ∧ Blk w' d 4 #[.bool false] ∧
    (∀ B, B ≤ a → B ≤ b → B ≤ d → Below B w w') := by
 have a0 := ha.cell 0
 have a1 := ha.cell 1
 have a2 := ha.cell 2
 have a3 := ha.cell 3
 have a4 := ha.frozen
 have b0 := hb.cell 0
 have b1 := hb.cell 1
 have b2 := hb.cell 2
 have b3 := hb.cell 3
 have b4 := hb.frozen
 have d0 := hd.cell 0
 have d4 := hd.frozen
 have hab' : b ≠ a := fun h => hab h.symm
 have had' : d ≠ a := fun h => had h.symm
 have hbd' : d ≠ b := fun h => hbd h.symm
 simp at a0 a1 a2 a3 b0 b1 b2 b3 d0
 have HA := Lib.hid ha
 have HB := Lib.hid hb
 have HD := Lib.hid hd
 clear ha hb hd
 refine callsD_of_wpS Tryz.func37 rfl fun c₀ cs hu => ?_
 apply wpS_seq
 apply wpS_region
 simp [wpOpsS, go_sem, recoverD, hu, Tryz.ntmps37, Exit.thenS]
 refine wpS_cond (t := true) (by simp [Act.eval, Array.replicate]) ?_
 simp only [if_true]
 apply wpS_region
 simp [wpOpsS, go_sem, *, bodyPostS, results, Tryz.results37]
 refine ⟨?_, ?_, ?_, ?_⟩
 ·exact (((((((((HA.out).set_ 0 (.int .u64 0)).set_ 1 (.int .u64 0)).set_ 2 (.int .u64 0)).set_ 3 (.int .u64 0)).far (p := ⟨b, 0, none⟩) hab (.int .u64 0)).far (p := ⟨b, 1, none⟩) hab (.int .u64 0)).far (p := ⟨b, 2, none⟩) hab (.int .u64 0)).far (p := ⟨b, 3, none⟩) hab (.int .u64 0)).far (p := ⟨d, 0, none⟩) had (.bool false)
 ·exact (((((((((HB.out).far (p := ⟨a, 0, none⟩) hab' (.int .u64 0)).far (p := ⟨a, 1, none⟩) hab' (.int .u64 0)).far (p := ⟨a, 2, none⟩) hab' (.int .u64 0)).far (p := ⟨a, 3, none⟩) hab' (.int .u64 0)).set_ 0 (.int .u64 0)).set_ 1 (.int .u64 0)).set_ 2 (.int .u64 0)).set_ 3 (.int .u64 0)).far (p := ⟨d, 0, none⟩) hbd (.bool false)
 ·exact (((((((((HD.out).far (p := ⟨a, 0, none⟩) had' (.int .u64 0)).far (p := ⟨a, 1, none⟩) had' (.int .u64 0)).far (p := ⟨a, 2, none⟩) had' (.int .u64 0)).far (p := ⟨a, 3, none⟩) had' (.int .u64 0)).far (p := ⟨b, 0, none⟩) hbd' (.int .u64 0)).far (p := ⟨b, 1, none⟩) hbd' (.int .u64 0)).far (p := ⟨b, 2, none⟩) hbd' (.int .u64 0)).far (p := ⟨b, 3, none⟩) hbd' (.int .u64 0)).set_ 0 (.bool false)
 ·intro B h1 h2 h3
  exact (((((((((Below.refl B w).setCell h1 _).setCell h1 _).setCell h1 _).setCell h1 _).setCell h2 _).setCell h2 _).setCell h2 _).setCell h2 _).setCell h3 _
theorem idle (a b d : Value) (w : World) :
  CallsD Tryz.prog 37 #[a, b, d] .returning w fun e u' w' => e = .returned (.tuple #[]) ∧ u' = .returning ∧ w' = w := by
 refine callsD_of_wpS Tryz.func37 rfl fun c₀ cs hu => ?_
 apply wpS_seq
 apply wpS_region
 simp [wpOpsS, go_sem, recoverD, hu, Tryz.ntmps37, Exit.thenS]
 refine wpS_cond (t := false) (by simp [Act.eval, Array.replicate]) ?_
 simp only [Bool.false_eq_true, if_false]
 refine wpS_of_wp (wp_skip ?_)
 cases c₀
 simp_all [bodyPostS, results, Tryz.results37]
end Go.Proofs.YtdcganigfihkjaaGreatDoor
