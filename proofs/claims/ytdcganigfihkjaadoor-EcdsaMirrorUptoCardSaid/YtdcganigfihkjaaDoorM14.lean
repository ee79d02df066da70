import Derived.Test.YtdcganigfihkjaaDoorM12
import Derived.Test.YtdcganigfihkjaaDoorM13
import Derived.Test.YtdcganigfihkjaaDoorM8
import Derived.Test.YtdcganigfihkjaaDoorM6
import Derived.Lib.LaidTab
import Derived.Deep.Strs
import Derived.Deep.DeepHandedRow
import Derived.Test.YtdcganigfihkjaaDoorCards
import Derived.Test.YtdcganigfihkjaaDoorTie
import Derived.SevenTiedAt
/- The references ref01.Add, ref01.Sub. -/
namespace Go.Proofs.YtdcganigfihkjaaDoor
open Go Go.Ab Go.RowKit Go.Chr
set_option maxRecDepth 100000

theorem lA_ok (x y i : Nat) : ∀ v ∈ lA x y i, okI .u64 v := by
  intro v hv
  have h : ∀ j, 0 ≤ sA x y j ∧ sA x y j < 18446744073709551616 := fun j => by unfold sA; omega
  unfold lA at hv
  simp only [List.mem_cons, List.not_mem_nil, or_false] at hv
  rcases hv with rfl | rfl | rfl | rfl <;> refine okI_u64.2 ?_ <;> split <;> first | exact h _ | omega
theorem lB_ok (x y i : Nat) : ∀ v ∈ lB x y i, okI .u64 v := by
  intro v hv
  have h : ∀ j, 0 ≤ sB x y j ∧ sB x y j < 18446744073709551616 := fun j => by unfold sB; omega
  unfold lB at hv
  simp only [List.mem_cons, List.not_mem_nil, or_false] at hv
  rcases hv with rfl | rfl | rfl | rfl <;> refine okI_u64.2 ?_ <;> split <;> first | exact h _ | omega
noncomputable def zA (x y i : Nat) : Nat := shut (natOf (lA x y i))
noncomputable def zB (x y i : Nat) : Nat := shut (natOf (lB x y i))
noncomputable def kA (x y i : Nat) : Bool := shut (cA x y i != 0)
noncomputable def kBo (x y i : Nat) : Bool := shut (cB x y i != 0)
theorem zA_eq (x y i : Nat) : zA x y i = natOf (lA x y i) := shut_eq _
theorem zB_eq (x y i : Nat) : zB x y i = natOf (lB x y i) := shut_eq _
theorem kA_eq (x y i : Nat) : kA x y i = (cA x y i != 0) := shut_eq _
theorem kBo_eq (x y i : Nat) : kBo x y i = (cB x y i != 0) := shut_eq _
theorem zA_set (x y : Nat) {i : Nat} (hi : i < 4) : natOf ((natL (zA x y i)).set i (sA x y i)) = zA x y (i + 1) := by
  rw [zA_eq, zA_eq, (natOf_rel rfl (lA_ok x y i)).2, lA_set x y hi]
theorem zB_set (x y : Nat) {i : Nat} (hi : i < 4) : natOf ((natL (zB x y i)).set i (sB x y i)) = zB x y (i + 1) := by
  rw [zB_eq, zB_eq, (natOf_rel rfl (lB_ok x y i)).2, lB_set x y hi]
theorem zA_zero (x y : Nat) : zA x y 0 = 0 := by rw [zA_eq]; rfl
theorem zB_zero (x y : Nat) : zB x y 0 = 0 := by rw [zB_eq]; rfl
theorem natOf_mod {l : List Int} (hl : l.length = 4) (hr : ∀ x ∈ l, okI .u64 x) {z : Nat} (h : l = natL z) : natOf l = z % two256 := by
  obtain ⟨h1, h2⟩ := natOf_rel hl hr
  have hm : z % two256 < two256 := Nat.mod_lt _ (by decide)
  have e : natL (natOf l) = natL (z % two256) := by
    rw [h2, h]; unfold natL two256
    rw [lb_modK z (i := 0) (by omega), lb_modK z (i := 1) (by omega), lb_modK z (i := 2) (by omega), lb_modK z (i := 3) (by omega)]
  have := natL_inj h1 hm
  rw [e] at this
  simp at this
  exact this
theorem zA_four {x y : Nat} (hx : x < two256) (hy : y < two256) : zA x y 4 = ladd x y ∧ kA x y 4 = lover x y := by
  obtain ⟨⟨r0, r1, r2, r3⟩, r4⟩ := lb_add hx hy (c1 := cA x y 1) (c2 := cA x y 2) (c3 := cA x y 3) (c4 := cA x y 4) (by simp [cA]) rfl rfl rfl
  refine ⟨?_, ?_⟩
  · rw [zA_eq, ladd_eq]
    refine natOf_mod rfl (lA_ok x y 4) ?_
    unfold natL
    rw [r0, r1, r2, r3]
    simp [lA, sA, cA]
  · rw [kA_eq, lover_eq, r4]; exact carry_dec _
theorem zB_four {x y : Nat} (hx : x < two256) (hy : y < two256) : zB x y 4 = lsub x y ∧ kBo x y 4 = lless x y := by
  have hz : ((two256 + x - y : Nat) : Int) = 115792089237316195423570985008687907853269984665640564039457584007913129639936 + ((x : Int) - y) := by unfold two256 at *; omega
  obtain ⟨⟨r0, r1, r2, r3⟩, r4⟩ := lb_sub hx hy (z := two256 + x - y) (c1 := cB x y 1) (c2 := cB x y 2) (c3 := cB x y 3) (c4 := cB x y 4) (by simp [cB]) rfl rfl rfl hz
  refine ⟨?_, ?_⟩
  · rw [zB_eq, lsub_eq]
    refine natOf_mod rfl (lB_ok x y 4) ?_
    unfold natL
    rw [r0, r1, r2, r3]
    simp [lB, sB, cB]
  · rw [kBo_eq, lless_eq, r4]; split <;> simp_all
/-- a step with a carry, as it is written -/
theorem step_add (x y i : Nat) : (kA x y i = false → IntKind.u64.wrap (lb x i + lb y i) = sA x y i ∧ decide (IntKind.u64.wrap (lb x i + lb y i) < lb x i) = kA x y (i + 1)) ∧
    (kA x y i = true → IntKind.u64.wrap (IntKind.u64.wrap (lb x i + lb y i) + 1) = sA x y i ∧ (decide (IntKind.u64.wrap (lb x i + lb y i) < lb x i) || (IntKind.u64.wrap (IntKind.u64.wrap (lb x i + lb y i) + 1) == 0)) = kA x y (i + 1)) := by
  have hx0 := lb_nn x i; have hx1 := lb_lt x i; have hy0 := lb_nn y i; have hy1 := lb_lt y i
  have hc := cA_bd x y i
  have hn : cA x y (i + 1) = (lb x i + lb y i + cA x y i) / 18446744073709551616 := rfl
  rw [kA_eq, kA_eq, hn]
  unfold sA
  generalize cA x y i = c at *
  generalize lb x i = a at *
  generalize lb y i = b at *
  clear hn
  simp only [wu64_mod]
  refine ⟨fun h => ?_, fun h => ?_⟩
  · have hc0 : c = 0 := by simpa using h
    subst hc0
    refine ⟨by omega, ?_⟩
    rw [Bool.eq_iff_iff]; simp only [decide_eq_true_eq, bne_iff_ne, ne_eq]; omega
  · have hc1 : c = 1 := by have : c ≠ 0 := by simpa using h
                           omega
    subst hc1
    refine ⟨by omega, ?_⟩
    rw [Bool.eq_iff_iff]; simp only [Bool.or_eq_true, decide_eq_true_eq, bne_iff_ne, ne_eq, beq_iff_eq]; omega
theorem step_sub (x y i : Nat) : (kBo x y i = false → IntKind.u64.wrap (lb x i - lb y i) = sB x y i ∧ decide (lb x i < lb y i) = kBo x y (i + 1)) ∧
    (kBo x y i = true → IntKind.u64.wrap (IntKind.u64.wrap (lb x i - lb y i) - 1) = sB x y i ∧ (decide (lb x i < lb y i) || (IntKind.u64.wrap (lb x i - lb y i) == 0)) = kBo x y (i + 1)) := by
  have hx0 := lb_nn x i; have hx1 := lb_lt x i; have hy0 := lb_nn y i; have hy1 := lb_lt y i
  have hc := cB_bd x y i
  have hn : cB x y (i + 1) = bor (lb x i) (lb y i + cB x y i) := rfl
  rw [kBo_eq, kBo_eq, hn]
  unfold sB bor
  generalize cB x y i = c at *
  generalize lb x i = a at *
  generalize lb y i = b at *
  clear hn
  simp only [wu64_mod]
  refine ⟨fun h => ?_, fun h => ?_⟩
  · have hc0 : c = 0 := by simpa using h
    subst hc0
    refine ⟨by omega, ?_⟩
    rw [Bool.eq_iff_iff]; simp only [decide_eq_true_eq, bne_iff_ne, ne_eq]; split <;> omega
  · have hc1 : c = 1 := by have : c ≠ 0 := by simpa using h
                           omega
    subst hc1
    refine ⟨by omega, ?_⟩
    rw [Bool.eq_iff_iff]; simp only [Bool.or_eq_true, decide_eq_true_eq, bne_iff_ne, ne_eq, beq_iff_eq]; split <;> omega
noncomputable def raI (x y : Nat) (i : Nat) : St :=
  ⟨[(2, .ptr (.l 0) 0 4 0), (3, .ptr (.l 1) 0 4 0), (4, .ptr (.l 2) 0 4 0), (6, .ptr (.l 3) 0 4 0), (7, .c (.bool (kA x y i))), (8, .c (.int .i64 (i : Nat)))], [(0, natB x), (1, natB y), (2, natB 0), (3, natB (zA x y i))], 4, 41⟩
noncomputable def raS (x y : Nat) : St :=
  ⟨[(2, .ptr (.l 0) 0 4 0), (3, .ptr (.l 1) 0 4 0), (4, .ptr (.l 2) 0 4 0), (6, .ptr (.l 3) 0 4 0), (7, .c (.bool false)), (8, .c (.int .i64 0))], [(0, natB x), (1, natB y), (2, natB 0), (3, natB 0)], 4, 41⟩
noncomputable def raF (z : Nat) (b : Bool) : St := ⟨[(4, .ptr (.l 0) 0 4 0), (6, .ptr (.l 1) 0 4 0), (7, .c (.bool b))], [(0, natB 0), (1, natB z)], 2, 41⟩
theorem radd_l0 {X : Snap} (hX : ∀ b L, X.ι b = some L → b < 0) (x y : Nat) : LOk CX X 0 (loopAt 0 Tryd.f56) (loopW 0 [] [2, 3, 4, 6, 7, 8] (raS x y) True false (raF (ladd x y) (lover x y))) := by
  refine loopW_ok hmo G11_ok (by kernel_rfl) hX [4, 6, 7] [] (raI x y) (fun i => i ≤ 4) (fun i => 4 - i) 0 (fun _ => by unfold raI raS; rw [zA_zero, kA_eq]; rfl) (fun _ => by omega) ?_
  intro hp i hi hfa
  refine ⟨[], 999, ?_⟩
  refine kto (q := bif decide ((Nat.cast (R := Int) i) < 4) then bif decide ((Nat.cast (R := Int) i) < (Nat.cast (R := Int) 4)) then bif decide ((Nat.cast (R := Int) i) < (Nat.cast (R := Int) 4)) then bif decide ((Nat.cast (R := Int) i) < (Nat.cast (R := Int) 4)) then bif kA x y i then bif decide (IntKind.u64.wrap (lb x (0 + (Nat.cast (R := Int) i).toNat * 1) + lb y (0 + (Nat.cast (R := Int) i).toNat * 1)) < lb x (0 + (Nat.cast (R := Int) i).toNat * 1)) then bif decide ((Nat.cast (R := Int) i) < (Nat.cast (R := Int) 4)) then ∃ (v' : Nat), some (St.mk [(2, AV.ptr (Base.l 0) 0 4 0), (3, AV.ptr (Base.l 1) 0 4 0), (4, AV.ptr (Base.l 2) 0 4 0), (6, AV.ptr (Base.l 3) 0 4 0), (7, AV.c (CV.bool true)), (8, AV.c (CV.int IntKind.i64 (IntKind.i64.wrap ((Nat.cast (R := Int) i) + 1))))] [(0, Blk'.cells 24 4 (Body.els [AV.c (CV.nat two256 x)])), (1, Blk'.cells 24 4 (Body.els [AV.c (CV.nat two256 y)])), (2, Blk'.cells 24 4 (Body.els [AV.c (CV.nat two256 0)])), (3, Blk'.cells 24 4 (Body.els [AV.c (CV.nat two256 (natOf ([lb (zA x y i) 0, lb (zA x y i) 1, lb (zA x y i) 2, lb (zA x y i) 3].set (0 + (Nat.cast (R := Int) i).toNat * 1) (IntKind.u64.wrap (IntKind.u64.wrap (lb x (0 + (Nat.cast (R := Int) i).toNat * 1) + lb y (0 + (Nat.cast (R := Int) i).toNat * 1)) + 1)))))]))] 4 41) = some (raI x y v') ∧ 4 - v' < 4 - i ∧ v' ≤ 4 else False else bif decide ((Nat.cast (R := Int) i) < (Nat.cast (R := Int) 4)) then ∃ (v' : Nat), some (St.mk [(2, AV.ptr (Base.l 0) 0 4 0), (3, AV.ptr (Base.l 1) 0 4 0), (4, AV.ptr (Base.l 2) 0 4 0), (6, AV.ptr (Base.l 3) 0 4 0), (7, AV.c (CV.bool (IntKind.u64.wrap (IntKind.u64.wrap (lb x (0 + (Nat.cast (R := Int) i).toNat * 1) + lb y (0 + (Nat.cast (R := Int) i).toNat * 1)) + 1) == 0))), (8, AV.c (CV.int IntKind.i64 (IntKind.i64.wrap ((Nat.cast (R := Int) i) + 1))))] [(0, Blk'.cells 24 4 (Body.els [AV.c (CV.nat two256 x)])), (1, Blk'.cells 24 4 (Body.els [AV.c (CV.nat two256 y)])), (2, Blk'.cells 24 4 (Body.els [AV.c (CV.nat two256 0)])), (3, Blk'.cells 24 4 (Body.els [AV.c (CV.nat two256 (natOf ([lb (zA x y i) 0, lb (zA x y i) 1, lb (zA x y i) 2, lb (zA x y i) 3].set (0 + (Nat.cast (R := Int) i).toNat * 1) (IntKind.u64.wrap (IntKind.u64.wrap (lb x (0 + (Nat.cast (R := Int) i).toNat * 1) + lb y (0 + (Nat.cast (R := Int) i).toNat * 1)) + 1)))))]))] 4 41) = some (raI x y v') ∧ 4 - v' < 4 - i ∧ v' ≤ 4 else False else bif decide ((Nat.cast (R := Int) i) < (Nat.cast (R := Int) 4)) then ∃ (v' : Nat), some (St.mk [(2, AV.ptr (Base.l 0) 0 4 0), (3, AV.ptr (Base.l 1) 0 4 0), (4, AV.ptr (Base.l 2) 0 4 0), (6, AV.ptr (Base.l 3) 0 4 0), (7, AV.c (CV.bool (decide (IntKind.u64.wrap (lb x (0 + (Nat.cast (R := Int) i).toNat * 1) + lb y (0 + (Nat.cast (R := Int) i).toNat * 1)) < lb x (0 + (Nat.cast (R := Int) i).toNat * 1))))), (8, AV.c (CV.int IntKind.i64 (IntKind.i64.wrap ((Nat.cast (R := Int) i) + 1))))] [(0, Blk'.cells 24 4 (Body.els [AV.c (CV.nat two256 x)])), (1, Blk'.cells 24 4 (Body.els [AV.c (CV.nat two256 y)])), (2, Blk'.cells 24 4 (Body.els [AV.c (CV.nat two256 0)])), (3, Blk'.cells 24 4 (Body.els [AV.c (CV.nat two256 (natOf ([lb (zA x y i) 0, lb (zA x y i) 1, lb (zA x y i) 2, lb (zA x y i) 3].set (0 + (Nat.cast (R := Int) i).toNat * 1) (IntKind.u64.wrap (lb x (0 + (Nat.cast (R := Int) i).toNat * 1) + lb y (0 + (Nat.cast (R := Int) i).toNat * 1))))))]))] 4 41) = some (raI x y v') ∧ 4 - v' < 4 - i ∧ v' ≤ 4 else False else False else False else False else false = false ∧ some (St.mk [(4, AV.ptr (Base.l 0) 0 4 0), (6, AV.ptr (Base.l 1) 0 4 0), (7, AV.c (CV.bool (kA x y i)))] [(0, Blk'.cells 24 4 (Body.els [AV.c (CV.nat two256 0)])), (1, Blk'.cells 24 4 (Body.els [AV.c (CV.nat two256 (zA x y i))]))] 2 41) = some (raF (ladd x y) (lover x y))) (by kernel_rfl) ?_
  have hi : i ≤ 4 := hi
  have hx : x < two256 := (hfa.h 0 _ rfl 0 _ rfl).1
  have hy : y < two256 := (hfa.h 1 _ rfl 0 _ rfl).1
  simp only [Int.toNat_natCast, Nat.mul_one, Nat.zero_add]
  refine cond_intro (fun h => ?_) (fun h => ?_)
  · simp at h
    have hm : 4 - (i + 1) < 4 - i ∧ i + 1 ≤ 4 := by omega
    have e13 : (i : Int) + 1 = ((i + 1 : Nat) : Int) := by omega
    have ew : IntKind.i64.wrap ((i : Int) + 1) = ((i + 1 : Nat) : Int) := by rw [wi (by omega), e13]
    have h4 : i < 4 := by omega
    have ez := zA_set x y h4
    unfold natL at ez
    rw [ew]
    refine cond_at (by simp; omega) <| cond_at (by simp; omega) <| cond_at (by simp; omega) <| ?_
    refine cond_intro (fun hk => ?_) (fun hk => ?_)
    · obtain ⟨s1, s2⟩ := (step_add x y i).2 hk
      refine cond_intro (fun ho => cond_at (by simp; omega) ⟨i + 1, ?_, hm⟩) (fun ho => cond_at (by simp; omega) ⟨i + 1, ?_, hm⟩)
      · rw [ho, Bool.true_or] at s2
        unfold raI; rw [← s2, s1, ez]; rfl
      · rw [ho, Bool.false_or] at s2
        unfold raI; rw [← s2]; simp only [s1]; rw [ez]; rfl
    · obtain ⟨s1, s2⟩ := (step_add x y i).1 hk
      refine cond_at (by simp; omega) ⟨i + 1, ?_, hm⟩
      unfold raI; rw [← s2, s1, ez]; rfl
  · simp at h
    have e : i = 4 := by omega
    subst e
    obtain ⟨f1, f2⟩ := zA_four hx hy
    rw [f1, f2]
    exact ⟨trivial, rfl⟩

noncomputable def rAdd1S : FSpec := fun xs bl => match xs, bl with
  | [.c (.nat mm1 x), .c (.nat mm2 y)], [] => bif Nat.beq mm1 two256 && Nat.beq mm2 two256 then some (none, ⟨.t2 (.c (.nat two256 (ladd x y))) (.c (.bool (lover x y))), [], []⟩) else none
  | _, _ => none
theorem rAdd1_ok : FnOk CX 56 rAdd1S := by
  refine fnOkF hmo G11_ok (fn := Tryd.f56) (c := bodyOf' Tryd.f56) (by kernel_rfl) (by kernel_rfl) (by kernel_rfl) ?_
  intro xs bl p o hF hp
  unfold rAdd1S at hF
  split at hF
  · rename_i mm1 x mm2 y
    obtain ⟨hg, hF⟩ := guard_some hF
    simp only [Bool.and_eq_true] at hg
    have hg0 := beqN hg.1
    have hg1 := beqN hg.2
    subst hg0; subst hg1
    injection hF with hF; injection hF with e1 e2; subst e1; subst e2
    refine ⟨Nat.le_of_ble_eq_true (by kernel_rfl), fun X hX hfa => ⟨[(0, loopW 0 [] [2, 3, 4, 6, 7, 8] (raS x y) True false (raF (ladd x y) (lover x y)))], 999, ?_⟩⟩
    refine kto (q := LOk CX X 0 (loopAt 0 Tryd.f56) (loopW 0 [] [2, 3, 4, 6, 7, 8] (raS x y) True false (raF (ladd x y) (lover x y))) ∧ some (St.mk [(2, AV.ptr (Base.l 0) 0 4 0), (3, AV.ptr (Base.l 1) 0 4 0), (4, AV.ptr (Base.l 2) 0 4 0), (6, AV.ptr (Base.l 3) 0 4 0), (7, AV.c (CV.bool false)), (8, AV.c (CV.int IntKind.i64 0))] [(0, Blk'.cells 24 4 (Body.els [AV.c (CV.nat two256 x)])), (1, Blk'.cells 24 4 (Body.els [AV.c (CV.nat two256 y)])), (2, Blk'.cells 24 4 (Body.els [AV.c (CV.nat two256 0)])), (3, Blk'.cells 24 4 (Body.els [AV.c (CV.nat two256 0)]))] 4 41) = some (raS x y) ∧ True ∧ some (Out.mk ((AV.c (CV.nat two256 (ladd x y))).t2 (AV.c (CV.bool (lover x y)))) [] []) = some (Out.mk ((AV.c (CV.nat two256 (ladd x y))).t2 (AV.c (CV.bool (lover x y)))) [] [])) (by kernel_rfl) ?_
    exact ⟨radd_l0 hX x y, by kernel_rfl, trivial, by kernel_rfl⟩
  · cases hF


noncomputable def rsI (x y : Nat) (i : Nat) : St :=
  ⟨[(2, .ptr (.l 0) 0 4 0), (3, .ptr (.l 1) 0 4 0), (4, .ptr (.l 2) 0 4 0), (6, .ptr (.l 3) 0 4 0), (7, .c (.bool (kBo x y i))), (8, .c (.int .i64 (i : Nat)))], [(0, natB x), (1, natB y), (2, natB 0), (3, natB (zB x y i))], 4, 43⟩
noncomputable def rsS (x y : Nat) : St :=
  ⟨[(2, .ptr (.l 0) 0 4 0), (3, .ptr (.l 1) 0 4 0), (4, .ptr (.l 2) 0 4 0), (6, .ptr (.l 3) 0 4 0), (7, .c (.bool false)), (8, .c (.int .i64 0))], [(0, natB x), (1, natB y), (2, natB 0), (3, natB 0)], 4, 43⟩
noncomputable def rsF (z : Nat) (b : Bool) : St := ⟨[(4, .ptr (.l 0) 0 4 0), (6, .ptr (.l 1) 0 4 0), (7, .c (.bool b))], [(0, natB 0), (1, natB z)], 2, 43⟩
theorem rsub_l0 {X : Snap} (hX : ∀ b L, X.ι b = some L → b < 0) (x y : Nat) : LOk CX X 0 (loopAt 0 Tryd.f31) (loopW 0 [] [2, 3, 4, 6, 7, 8] (rsS x y) True false (rsF (lsub x y) (lless x y))) := by
  refine loopW_ok hmo G11_ok (by kernel_rfl) hX [4, 6, 7] [] (rsI x y) (fun i => i ≤ 4) (fun i => 4 - i) 0 (fun _ => by unfold rsI rsS; rw [zB_zero, kBo_eq]; rfl) (fun _ => by omega) ?_
  intro hp i hi hfa
  refine ⟨[], 999, ?_⟩
  refine kto (q := bif decide ((Nat.cast (R := Int) i) < 4) then bif decide ((Nat.cast (R := Int) i) < (Nat.cast (R := Int) 4)) then bif decide ((Nat.cast (R := Int) i) < (Nat.cast (R := Int) 4)) then bif decide ((Nat.cast (R := Int) i) < (Nat.cast (R := Int) 4)) then bif decide ((Nat.cast (R := Int) i) < (Nat.cast (R := Int) 4)) then bif kBo x y i then bif decide (lb x (0 + (Nat.cast (R := Int) i).toNat * 1) < lb y (0 + (Nat.cast (R := Int) i).toNat * 1)) then bif decide ((Nat.cast (R := Int) i) < (Nat.cast (R := Int) 4)) then ∃ (v' : Nat), some (St.mk [(2, AV.ptr (Base.l 0) 0 4 0), (3, AV.ptr (Base.l 1) 0 4 0), (4, AV.ptr (Base.l 2) 0 4 0), (6, AV.ptr (Base.l 3) 0 4 0), (7, AV.c (CV.bool true)), (8, AV.c (CV.int IntKind.i64 (IntKind.i64.wrap ((Nat.cast (R := Int) i) + 1))))] [(0, Blk'.cells 24 4 (Body.els [AV.c (CV.nat two256 x)])), (1, Blk'.cells 24 4 (Body.els [AV.c (CV.nat two256 y)])), (2, Blk'.cells 24 4 (Body.els [AV.c (CV.nat two256 0)])), (3, Blk'.cells 24 4 (Body.els [AV.c (CV.nat two256 (natOf ([lb (zB x y i) 0, lb (zB x y i) 1, lb (zB x y i) 2, lb (zB x y i) 3].set (0 + (Nat.cast (R := Int) i).toNat * 1) (IntKind.u64.wrap (IntKind.u64.wrap (lb x (0 + (Nat.cast (R := Int) i).toNat * 1) - lb y (0 + (Nat.cast (R := Int) i).toNat * 1)) - 1)))))]))] 4 43) = some (rsI x y v') ∧ 4 - v' < 4 - i ∧ v' ≤ 4 else False else bif decide ((Nat.cast (R := Int) i) < (Nat.cast (R := Int) 4)) then ∃ (v' : Nat), some (St.mk [(2, AV.ptr (Base.l 0) 0 4 0), (3, AV.ptr (Base.l 1) 0 4 0), (4, AV.ptr (Base.l 2) 0 4 0), (6, AV.ptr (Base.l 3) 0 4 0), (7, AV.c (CV.bool (IntKind.u64.wrap (lb x (0 + (Nat.cast (R := Int) i).toNat * 1) - lb y (0 + (Nat.cast (R := Int) i).toNat * 1)) == 0))), (8, AV.c (CV.int IntKind.i64 (IntKind.i64.wrap ((Nat.cast (R := Int) i) + 1))))] [(0, Blk'.cells 24 4 (Body.els [AV.c (CV.nat two256 x)])), (1, Blk'.cells 24 4 (Body.els [AV.c (CV.nat two256 y)])), (2, Blk'.cells 24 4 (Body.els [AV.c (CV.nat two256 0)])), (3, Blk'.cells 24 4 (Body.els [AV.c (CV.nat two256 (natOf ([lb (zB x y i) 0, lb (zB x y i) 1, lb (zB x y i) 2, lb (zB x y i) 3].set (0 + (Nat.cast (R := Int) i).toNat * 1) (IntKind.u64.wrap (IntKind.u64.wrap (lb x (0 + (Nat.cast (R := Int) i).toNat * 1) - lb y (0 + (Nat.cast (R := Int) i).toNat * 1)) - 1)))))]))] 4 43) = some (rsI x y v') ∧ 4 - v' < 4 - i ∧ v' ≤ 4 else False else bif decide ((Nat.cast (R := Int) i) < (Nat.cast (R := Int) 4)) then ∃ (v' : Nat), some (St.mk [(2, AV.ptr (Base.l 0) 0 4 0), (3, AV.ptr (Base.l 1) 0 4 0), (4, AV.ptr (Base.l 2) 0 4 0), (6, AV.ptr (Base.l 3) 0 4 0), (7, AV.c (CV.bool (decide (lb x (0 + (Nat.cast (R := Int) i).toNat * 1) < lb y (0 + (Nat.cast (R := Int) i).toNat * 1))))), (8, AV.c (CV.int IntKind.i64 (IntKind.i64.wrap ((Nat.cast (R := Int) i) + 1))))] [(0, Blk'.cells 24 4 (Body.els [AV.c (CV.nat two256 x)])), (1, Blk'.cells 24 4 (Body.els [AV.c (CV.nat two256 y)])), (2, Blk'.cells 24 4 (Body.els [AV.c (CV.nat two256 0)])), (3, Blk'.cells 24 4 (Body.els [AV.c (CV.nat two256 (natOf ([lb (zB x y i) 0, lb (zB x y i) 1, lb (zB x y i) 2, lb (zB x y i) 3].set (0 + (Nat.cast (R := Int) i).toNat * 1) (IntKind.u64.wrap (lb x (0 + (Nat.cast (R := Int) i).toNat * 1) - lb y (0 + (Nat.cast (R := Int) i).toNat * 1))))))]))] 4 43) = some (rsI x y v') ∧ 4 - v' < 4 - i ∧ v' ≤ 4 else False else False else False else False else False else false = false ∧ some (St.mk [(4, AV.ptr (Base.l 0) 0 4 0), (6, AV.ptr (Base.l 1) 0 4 0), (7, AV.c (CV.bool (kBo x y i)))] [(0, Blk'.cells 24 4 (Body.els [AV.c (CV.nat two256 0)])), (1, Blk'.cells 24 4 (Body.els [AV.c (CV.nat two256 (zB x y i))]))] 2 43) = some (rsF (lsub x y) (lless x y))) (by kernel_rfl) ?_
  have hi : i ≤ 4 := hi
  have hx : x < two256 := (hfa.h 0 _ rfl 0 _ rfl).1
  have hy : y < two256 := (hfa.h 1 _ rfl 0 _ rfl).1
  simp only [Int.toNat_natCast, Nat.mul_one, Nat.zero_add]
  refine cond_intro (fun h => ?_) (fun h => ?_)
  · simp at h
    have hm : 4 - (i + 1) < 4 - i ∧ i + 1 ≤ 4 := by omega
    have e13 : (i : Int) + 1 = ((i + 1 : Nat) : Int) := by omega
    have ew : IntKind.i64.wrap ((i : Int) + 1) = ((i + 1 : Nat) : Int) := by rw [wi (by omega), e13]
    have h4 : i < 4 := by omega
    have ez := zB_set x y h4
    unfold natL at ez
    rw [ew]
    refine cond_at (by simp; omega) <| cond_at (by simp; omega) <| cond_at (by simp; omega) <| cond_at (by simp; omega) <| ?_
    refine cond_intro (fun hk => ?_) (fun hk => ?_)
    · obtain ⟨s1, s2⟩ := (step_sub x y i).2 hk
      refine cond_intro (fun ho => cond_at (by simp; omega) ⟨i + 1, ?_, hm⟩) (fun ho => cond_at (by simp; omega) ⟨i + 1, ?_, hm⟩)
      · rw [ho, Bool.true_or] at s2
        unfold rsI; rw [← s2, s1, ez]; rfl
      · rw [ho, Bool.false_or] at s2
        unfold rsI; rw [← s2]; simp only [s1]; rw [ez]; rfl
    · obtain ⟨s1, s2⟩ := (step_sub x y i).1 hk
      refine cond_at (by simp; omega) ⟨i + 1, ?_, hm⟩
      unfold rsI; rw [← s2, s1, ez]; rfl
  · simp at h
    have e : i = 4 := by omega
    subst e
    obtain ⟨f1, f2⟩ := zB_four hx hy
    rw [f1, f2]
    exact ⟨trivial, rfl⟩

noncomputable def rSub1S : FSpec := fun xs bl => match xs, bl with
  | [.c (.nat mm1 x), .c (.nat mm2 y)], [] => bif Nat.beq mm1 two256 && Nat.beq mm2 two256 then some (none, ⟨.t2 (.c (.nat two256 (lsub x y))) (.c (.bool (lless x y))), [], []⟩) else none
  | _, _ => none
theorem rSub1_ok : FnOk CX 31 rSub1S := by
  refine fnOkF hmo G11_ok (fn := Tryd.f31) (c := bodyOf' Tryd.f31) (by kernel_rfl) (by kernel_rfl) (by kernel_rfl) ?_
  intro xs bl p o hF hp
  unfold rSub1S at hF
  split at hF
  · rename_i mm1 x mm2 y
    obtain ⟨hg, hF⟩ := guard_some hF
    simp only [Bool.and_eq_true] at hg
    have hg0 := beqN hg.1
    have hg1 := beqN hg.2
    subst hg0; subst hg1
    injection hF with hF; injection hF with e1 e2; subst e1; subst e2
    refine ⟨Nat.le_of_ble_eq_true (by kernel_rfl), fun X hX hfa => ⟨[(0, loopW 0 [] [2, 3, 4, 6, 7, 8] (rsS x y) True false (rsF (lsub x y) (lless x y)))], 999, ?_⟩⟩
    refine kto (q := LOk CX X 0 (loopAt 0 Tryd.f31) (loopW 0 [] [2, 3, 4, 6, 7, 8] (rsS x y) True false (rsF (lsub x y) (lless x y))) ∧ some (St.mk [(2, AV.ptr (Base.l 0) 0 4 0), (3, AV.ptr (Base.l 1) 0 4 0), (4, AV.ptr (Base.l 2) 0 4 0), (6, AV.ptr (Base.l 3) 0 4 0), (7, AV.c (CV.bool false)), (8, AV.c (CV.int IntKind.i64 0))] [(0, Blk'.cells 24 4 (Body.els [AV.c (CV.nat two256 x)])), (1, Blk'.cells 24 4 (Body.els [AV.c (CV.nat two256 y)])), (2, Blk'.cells 24 4 (Body.els [AV.c (CV.nat two256 0)])), (3, Blk'.cells 24 4 (Body.els [AV.c (CV.nat two256 0)]))] 4 43) = some (rsS x y) ∧ True ∧ some (Out.mk ((AV.c (CV.nat two256 (lsub x y))).t2 (AV.c (CV.bool (lless x y)))) [] []) = some (Out.mk ((AV.c (CV.nat two256 (lsub x y))).t2 (AV.c (CV.bool (lless x y)))) [] [])) (by kernel_rfl) ?_
    exact ⟨rsub_l0 hX x y, by kernel_rfl, trivial, by kernel_rfl⟩
  · cases hF


end Go.Proofs.YtdcganigfihkjaaDoor
/- The references ref02.Fold, plus, Sub. -/
namespace Go.Proofs.YtdcganigfihkjaaDoor
open Go Go.Ab Go.RowKit Go.Chr
set_option maxRecDepth 100000

noncomputable def G13a : Tab := (56, lift [true, true] rAdd1S) :: (31, lift [true, true] rSub1S) :: G11
theorem G13a_ok : TabOk CX G13a := .cons (lift_ok rAdd1_ok _) <| .cons (lift_ok rSub1_ok _) G11_ok
noncomputable def sbv (a m v : Nat) : Nat := shut (a - v * m)
theorem sbv_eq (a m v : Nat) : sbv a m v = a - v * m := shut_eq _
theorem sbv_zero (a m : Nat) : sbv a m 0 = a := by rw [sbv_eq]; simp
noncomputable def foI (a m : Nat) (v : Nat) : St := ⟨[(3, .ptr (.l 0) 0 4 0), (4, .ptr (.l 1) 0 4 0), (5, .ptr (.l 2) 0 4 0)], [(0, natB (sbv a m v)), (1, natB 0), (2, natB m)], 3, 26⟩
noncomputable def foS (a m : Nat) : St := ⟨[(3, .ptr (.l 0) 0 4 0), (4, .ptr (.l 1) 0 4 0), (5, .ptr (.l 2) 0 4 0)], [(0, natB a), (1, natB 0), (2, natB m)], 3, 26⟩
noncomputable def foF (z : Nat) : St := ⟨[(3, .ptr (.l 0) 0 4 0), (4, .ptr (.l 1) 0 4 0)], [(0, natB z), (1, natB 0)], 2, 26⟩
theorem lsub_le {x y : Nat} (hx : x < two256) (h : y ≤ x) : lsub x y = x - y := by
  rw [lsub_eq, show two256 + x - y = two256 + (x - y) by omega, Nat.add_mod_left, Nat.mod_eq_of_lt (by omega)]
theorem lsub_le' {x y : Nat} (hx : x ≤ two256) (h : y ≤ x) : x < two256 + y → lsub x y = x - y := by
  intro h2
  rw [lsub_eq, show two256 + x - y = two256 + (x - y) by omega, Nat.add_mod_left, Nat.mod_eq_of_lt (by omega)]
theorem fold_l0 {X : Snap} (hX : ∀ b L, X.ι b = some L → b < 0) (a m z : Nat) (hz : z = a % m) : LOk CX X 0 (loopAt 0 Tryd.f29) (loopW 0 [] [3, 4, 5] (foS a m) (0 < m) false (foF z)) := by
  refine loopW_ok hmo G13a_ok (by kernel_rfl) hX [3, 4] [] (foI a m) (fun v => v * m ≤ a) (fun v => a - v * m) 0 (fun _ => by unfold foI foS; rw [sbv_zero]) (fun _ => by omega) ?_
  intro hp v hi hfa
  refine ⟨[], 999, ?_⟩
  refine kto (q := bif !lless (sbv a m v) m then ∃ (v' : Nat), some (St.mk [(3, AV.ptr (Base.l 0) 0 4 0), (4, AV.ptr (Base.l 1) 0 4 0), (5, AV.ptr (Base.l 2) 0 4 0)] [(0, Blk'.cells 24 4 (Body.els [AV.c (CV.nat two256 (lsub (sbv a m v) m))])), (1, Blk'.cells 24 4 (Body.els [AV.c (CV.nat two256 0)])), (2, Blk'.cells 24 4 (Body.els [AV.c (CV.nat two256 m)]))] 3 26) = some (foI a m v') ∧ a - v' * m < a - v * m ∧ v' * m ≤ a else false = false ∧ some (St.mk [(3, AV.ptr (Base.l 0) 0 4 0), (4, AV.ptr (Base.l 1) 0 4 0)] [(0, Blk'.cells 24 4 (Body.els [AV.c (CV.nat two256 (sbv a m v))])), (1, Blk'.cells 24 4 (Body.els [AV.c (CV.nat two256 0)]))] 2 26) = some (foF z)) (by kernel_rfl) ?_
  have hi : v * m ≤ a := hi
  have hp : 0 < m := hp
  have hx : sbv a m v < two256 := (hfa.h 0 _ rfl 0 _ rfl).1
  refine cond_intro (fun h => ?_) (fun h => ?_)
  · have h : ¬ (sbv a m v < m) := by simpa [lless_eq] using h
    have hs : (v + 1) * m = v * m + m := Nat.succ_mul v m
    have hv := sbv_eq a m v
    have e : lsub (sbv a m v) m = sbv a m (v + 1) := by
      rw [lsub_le hx (by omega), sbv_eq a m (v + 1)]; omega
    exact ⟨v + 1, by rw [e]; rfl, by omega, by omega⟩
  · have h : sbv a m v < m := by simpa [lless_eq] using h
    have e : sbv a m v = z := by
      rw [sbv_eq] at h ⊢
      rw [hz]
      have e2 : a = (a - v * m) + m * v := by rw [Nat.mul_comm m v]; omega
      conv => rhs; rw [e2]
      rw [Nat.add_mul_mod_self_left, Nat.mod_eq_of_lt h]
    rw [e]
    exact ⟨rfl, rfl⟩
theorem modR_pI {k : Int} (h : kB k) : modR k = pI k := by
  have h1 := h.1; have h2 := h.2
  have hk : k = 0 ∨ k = 1 ∨ k = 2 ∨ k = 3 := by omega
  rw [modR_eq]
  rcases hk with rfl | rfl | rfl | rfl <;> rfl
noncomputable def rFoldS : FSpec := fun xs bl => match xs, bl with
  | [.c (.int .i64 k), .c (.nat mm1 a)], [] => bif Nat.beq mm1 two256 then some (some (kB k), ⟨.c (.nat two256 (ffold k a)), [], []⟩) else none
  | _, _ => none
theorem rFold_ok : FnOk CX 29 rFoldS := by
  refine fnOkF hmo G13a_ok (fn := Tryd.f29) (c := bodyOf' Tryd.f29) (by kernel_rfl) (by kernel_rfl) (by kernel_rfl) ?_
  intro xs bl p o hF hp
  unfold rFoldS at hF
  split at hF
  · rename_i k mm1 a
    obtain ⟨hg, hF⟩ := guard_some hF
    have hg0 := beqN hg
    subst hg0
    injection hF with hF; injection hF with e1 e2; subst e1; subst e2
    have hp : kB k := hp
    refine ⟨Nat.le_of_ble_eq_true (by kernel_rfl), fun X hX hfa => ⟨[(0, loopW 0 [] [3, 4, 5] (foS a (modR k)) (0 < modR k) false (foF (ffold k a)))], 999, ?_⟩⟩
    refine kto (q := bif (modR k).beq 0 then some (Out.mk (AV.c (CV.nat two256 (modR k))) [] []) = some (Out.mk (AV.c (CV.nat two256 (ffold k a))) [] []) else LOk CX X 0 (loopAt 0 Tryd.f29) (loopW 0 [] [3, 4, 5] (foS a (modR k)) (0 < modR k) false (foF (ffold k a))) ∧ some (St.mk [(3, AV.ptr (Base.l 0) 0 4 0), (4, AV.ptr (Base.l 1) 0 4 0), (5, AV.ptr (Base.l 2) 0 4 0)] [(0, Blk'.cells 24 4 (Body.els [AV.c (CV.nat two256 a)])), (1, Blk'.cells 24 4 (Body.els [AV.c (CV.nat two256 0)])), (2, Blk'.cells 24 4 (Body.els [AV.c (CV.nat two256 (modR k))]))] 3 26) = some (foS a (modR k)) ∧ 0 < modR k ∧ some (Out.mk (AV.c (CV.nat two256 (ffold k a))) [] []) = some (Out.mk (AV.c (CV.nat two256 (ffold k a))) [] [])) (by kernel_rfl) ?_
    have hm : 0 < modR k := by rw [modR_pI hp]; exact pI_pos k
    refine cond_intro (fun h => ?_) (fun h => ?_)
    · exfalso; have := Nat.eq_of_beq_eq_true h; omega
    · exact ⟨fold_l0 hX a (modR k) _ (by rw [ffold_eq, modR_pI hp]), by kernel_rfl, hm, rfl⟩
  · cases hF


noncomputable def plusR (m a b : Nat) : Nat := bif lover a b || !lless (ladd a b) m then lsub (ladd a b) m else ladd a b
noncomputable def rPlusS : FSpec := fun xs bl => match xs, bl with
  | [.c (.nat mm1 m), .c (.nat mm2 a), .c (.nat mm3 b)], [] => bif Nat.beq mm1 two256 && Nat.beq mm2 two256 && Nat.beq mm3 two256 then some (none, ⟨.c (.nat two256 (plusR m a b)), [], []⟩) else none
  | _, _ => none
theorem rPlus_ok : FnOk CX 32 rPlusS := by
  refine fnOkF hmo G13a_ok (fn := Tryd.f32) (c := bodyOf' Tryd.f32) (by kernel_rfl) (by kernel_rfl) (by kernel_rfl) ?_
  intro xs bl p o hF hp
  unfold rPlusS at hF
  split at hF
  · rename_i mm1 m mm2 a mm3 b
    obtain ⟨hg, hF⟩ := guard_some hF
    simp only [Bool.and_eq_true] at hg
    have hg0 := beqN hg.1.1
    have hg1 := beqN hg.1.2
    have hg2 := beqN hg.2
    subst hg0; subst hg1; subst hg2
    injection hF with hF; injection hF with e1 e2; subst e1; subst e2
    refine ⟨Nat.le_of_ble_eq_true (by kernel_rfl), fun X hX hfa => ⟨[], 999, ?_⟩⟩
    refine kto (q := bif lover a b then some (Out.mk (AV.c (CV.nat two256 (lsub (ladd a b) m))) [] []) = some (Out.mk (AV.c (CV.nat two256 (plusR m a b))) [] []) else bif !lless (ladd a b) m then some (Out.mk (AV.c (CV.nat two256 (lsub (ladd a b) m))) [] []) = some (Out.mk (AV.c (CV.nat two256 (plusR m a b))) [] []) else some (Out.mk (AV.c (CV.nat two256 (ladd a b))) [] []) = some (Out.mk (AV.c (CV.nat two256 (plusR m a b))) [] [])) (by kernel_rfl) ?_
    unfold plusR
    refine cond_intro (fun h => by rw [h]; rfl) (fun h => ?_)
    rw [h]
    exact cond_intro (fun h2 => by rw [h2]; rfl) (fun h2 => by rw [h2]; rfl)
  · cases hF


noncomputable def G13b : Tab := (29, lift [true, true] rFoldS) :: (32, lift [true, true, true] rPlusS) :: G13a
theorem G13b_ok : TabOk CX G13b := .cons (lift_ok rFold_ok _) <| .cons (lift_ok rPlus_ok _) G13a_ok
theorem fsub_pure {k : Int} (hp : kB k) (a b : Nat) : fsub k a b = bif lless (ffold k a) (ffold k b) then plusR (modR k) (ffold k a) (lsub (modR k) (ffold k b)) else lsub (ffold k a) (ffold k b) := by
  have hm := pI_pos k
  have hl := pI_le k
  have hx : ffold k a < pI k := by rw [ffold_eq]; exact Nat.mod_lt _ hm
  have hy : ffold k b < pI k := by rw [ffold_eq]; exact Nat.mod_lt _ hm
  rw [modR_pI hp, fsub_eq]
  unfold subI subM
  rw [← ffold_eq k a, ← ffold_eq k b]
  generalize ffold k a = x at *
  generalize ffold k b = y at *
  generalize pI k = m at *
  have h2 : two256 = 115792089237316195423570985008687907853269984665640564039457584007913129639936 := rfl
  cases h : lless x y with
  | true =>
    have hlt : x < y := by simpa [lless_eq] using h
    have e1 : lsub m y = m - y := lsub_le' (by omega) (by omega) (by omega)
    have e2 : ladd x (m - y) = m + x - y := by rw [ladd_eq, Nat.mod_eq_of_lt (by omega)]; omega
    have e3 : lover x (m - y) = false := by rw [lover_eq]; simp; omega
    have e4 : lless (m + x - y) m = true := by rw [lless_eq]; simp; omega
    show _ = plusR m x (lsub m y)
    unfold plusR
    rw [e1, e2, e3, e4, Nat.mod_eq_of_lt (by omega)]; rfl
  | false =>
    have hlt : ¬ x < y := by simpa [lless_eq] using h
    show _ = lsub x y
    rw [lsub_le (by omega) (by omega), show m + x - y = m + (x - y) by omega, Nat.add_mod_left, Nat.mod_eq_of_lt (by omega)]
noncomputable def rSub2S : FSpec := fun xs bl => match xs, bl with
  | [.c (.int .i64 k), .c (.nat mm1 a), .c (.nat mm2 b)], [] => bif Nat.beq mm1 two256 && Nat.beq mm2 two256 then some (some (kB k), ⟨.c (.nat two256 (fsub k a b)), [], []⟩) else none
  | _, _ => none
theorem rSub2_ok : FnOk CX 9 rSub2S := by
  refine fnOkF hmo G13b_ok (fn := Tryd.f9) (c := bodyOf' Tryd.f9) (by kernel_rfl) (by kernel_rfl) (by kernel_rfl) ?_
  intro xs bl p o hF hp
  unfold rSub2S at hF
  split at hF
  · rename_i k mm1 a mm2 b
    obtain ⟨hg, hF⟩ := guard_some hF
    simp only [Bool.and_eq_true] at hg
    have hg0 := beqN hg.1
    have hg1 := beqN hg.2
    subst hg0; subst hg1
    injection hF with hF; injection hF with e1 e2; subst e1; subst e2
    have hp : kB k := hp
    refine ⟨Nat.le_of_ble_eq_true (by kernel_rfl), fun X hX hfa => ⟨[], 999, ?_⟩⟩
    refine kto (q := kB k ∧ kB k ∧ bif lless (ffold k a) (ffold k b) then some (Out.mk (AV.c (CV.nat two256 (plusR (modR k) (ffold k a) (lsub (modR k) (ffold k b))))) [] []) = some (Out.mk (AV.c (CV.nat two256 (fsub k a b))) [] []) else some (Out.mk (AV.c (CV.nat two256 (lsub (ffold k a) (ffold k b)))) [] []) = some (Out.mk (AV.c (CV.nat two256 (fsub k a b))) [] [])) (by kernel_rfl) ?_
    refine ⟨hp, hp, ?_⟩
    rw [fsub_pure hp a b]
    exact cond_intro (fun h => by rw [h]; rfl) (fun h => by rw [h]; rfl)
  · cases hF


noncomputable def G13 : Tab := (9, lift [true, true, true] rSub2S) :: G13b
theorem G13_ok : TabOk CX G13 := .cons (lift_ok rSub2_ok _) G13b_ok
end Go.Proofs.YtdcganigfihkjaaDoor
/- What p256 computes is what the curve's group says. -/
namespace Go.Proofs.YtdcganigfihkjaaDoor
open Go Go.Ab Go.RowKit Go.Chr
set_option maxRecDepth 100000

abbrev FP := Fin ChEC.PP
theorem pI0 : pI 0 = ChEC.PP := by kernel_rfl
theorem PP_pos : 0 < ChEC.PP := ChEC.M_pos
theorem ph_fadd (x y : Nat) : (ChEC.ph (fadd 0 x y) : FP) = ChEC.ph x + ChEC.ph y := by rw [fadd_eq, pI0, ChEC.ph_mod, ChEC.ph_add]
theorem ph_fmul (x y : Nat) : (ChEC.ph (fmul 0 x y) : FP) = ChEC.ph x * ChEC.ph y := by rw [fmul_eq, pI0, ChEC.ph_mod, ChEC.ph_mul]
theorem ph_subM {M : Nat} [NeZero M] (x y : Nat) : (ChEC.ph (subM M x y) : Fin M) = ChEC.ph x - ChEC.ph y := by
  have hy : y % M ≤ M + x % M := by have := Nat.mod_lt y (ChEC.M_pos (M := M)); omega
  have e : (ChEC.ph (M + x % M - y % M) : Fin M) + ChEC.ph (y % M) = ChEC.ph x := by
    rw [← ChEC.ph_add, Nat.sub_add_cancel hy, ChEC.ph_add, ChEC.ph_self, ChEC.ph_mod]; grind
  rw [ChEC.ph_mod y] at e
  unfold subM
  rw [ChEC.ph_mod]; grind
theorem ph_fsub (x y : Nat) : (ChEC.ph (fsub 0 x y) : FP) = ChEC.ph x - ChEC.ph y := by
  rw [fsub_eq]; unfold subI; rw [pI0, ph_subM]
theorem fi_ph {M : Nat} [NeZero M] (x : Nat) : (ChEC.fi (ChEC.ph x) : Fin M) = ChEC.ph (x ^ (M - 2)) := by
  apply Fin.ext; show (x % M) ^ (M - 2) % M = x ^ (M - 2) % M; rw [← Nat.pow_mod]
theorem ph_finv (x : Nat) : (ChEC.ph (finv 0 x) : FP) = ChEC.fi (ChEC.ph x) := by
  rw [finv_eq]; unfold invI; rw [pI0, ChEC.ph_mod, fi_ph]
theorem fadd_lt (x y : Nat) : fadd 0 x y < ChEC.PP := by rw [fadd_eq, pI0]; exact Nat.mod_lt _ PP_pos
theorem fmul_lt (x y : Nat) : fmul 0 x y < ChEC.PP := by rw [fmul_eq, pI0]; exact Nat.mod_lt _ PP_pos
theorem fsub_lt (x y : Nat) : fsub 0 x y < ChEC.PP := by rw [fsub_eq]; unfold subI subM; rw [pI0]; exact Nat.mod_lt _ PP_pos
def ph3 (t : T3) : ChEC.T3 FP := ⟨ChEC.ph t.1, ChEC.ph t.2.1, ChEC.ph t.2.2⟩
abbrev bF : FP := ChEC.ph ChEC.bP
theorem cvB_bP : cvB = ChEC.bP := by kernel_rfl
theorem pls_ph (p q : T3) : ph3 (plsF p q) = ChEC.plus bF (ph3 p) (ph3 q) := by
  unfold plsF
  rw [cvB_bP]
  simp only [ph3, ChEC.plus, ph_fadd, ph_fmul, ph_fsub]
theorem pls_lt (p q : T3) : (plsF p q).2.2 < ChEC.PP := by unfold plsF; exact fadd_lt _ _
instance domI : ChEC.Dom ChEC.PP := ChEC.domPP
abbrev PtF := ChEC.Pt FP
abbrev On (P : PtF) : Prop := ChEC.On bF P
theorem pls_tr {p q : T3} {P Q : PtF} (hp : ChEC.Tr (ph3 p) P) (hq : ChEC.Tr (ph3 q) Q) (hP : On P) (hQ : On Q) : ChEC.Tr (ph3 (plsF p q)) (ChEC.padd P Q) := by
  rw [pls_ph]; exact ChEC.tr_plus ChEC.goodP hp hq hP hQ
theorem pow_split (a i : Nat) : a / 2 ^ i = 2 * (a / 2 ^ (i + 1)) + a / 2 ^ i % 2 := by
  rw [Nat.pow_succ, ← Nat.div_div_eq_div_mul]; omega
theorem both_tr {P Q : PtF} {tp tq : T3} (hp : ChEC.Tr (ph3 tp) P) (hq : ChEC.Tr (ph3 tq) Q) (hP : On P) (hQ : On Q) {u v : Nat} (hu : u < 2 ^ 256) (hv : v < 2 ^ 256) :
    ∀ n, n ≤ 256 → ChEC.Tr (ph3 (bothF u v tp tq n)) (ChEC.padd (ChEC.smul (u / 2 ^ (256 - n)) P) (ChEC.smul (v / 2 ^ (256 - n)) Q)) := by
  intro n
  induction n with
  | zero =>
    intro _
    rw [Nat.sub_zero, Nat.div_eq_of_lt hu, Nat.div_eq_of_lt hv]
    exact ChEC.tr_tri .O
  | succ n ih =>
    intro hn
    have ih := ih (by omega)
    obtain ⟨i, hi⟩ : ∃ i, i = 255 - n := ⟨_, rfl⟩
    have e1 : 256 - n = i + 1 := by omega
    have e2 : 256 - (n + 1) = i := by omega
    rw [e1] at ih
    rw [e2]
    show ChEC.Tr (ph3 (stepF u v tp tq (255 - n) (bothF u v tp tq n))) _
    rw [stC_eq, ← hi]
    unfold stC
    rw [← plsC_eq]
    have hb := ChEC.both_step ChEC.goodP hP hQ (u / 2 ^ (i + 1)) (v / 2 ^ (i + 1)) (u / 2 ^ i % 2) (v / 2 ^ i % 2)
    rw [← pow_split, ← pow_split] at hb
    rw [← hb]
    have hU : On (ChEC.padd (ChEC.smul (u / 2 ^ (i + 1)) P) (ChEC.smul (v / 2 ^ (i + 1)) Q)) := ChEC.on_padd ChEC.goodP (ChEC.on_smul ChEC.goodP hP _) (ChEC.on_smul ChEC.goodP hQ _)
    have hUU := ChEC.on_padd ChEC.goodP hU hU
    have ht := pls_tr ih ih hU hU
    rcases Nat.mod_two_eq_zero_or_one (u / 2 ^ i) with h1 | h1 <;> rcases Nat.mod_two_eq_zero_or_one (v / 2 ^ i) with h2 | h2 <;> rw [h1, h2]
    · show ChEC.Tr (ph3 (plsF _ _)) (ChEC.padd _ .O)
      rw [ChEC.padd_O]; exact ht
    · show ChEC.Tr (ph3 (plsF (plsF _ _) tq)) (ChEC.padd _ (ChEC.padd .O (ChEC.smul 1 Q)))
      rw [ChEC.O_padd, ChEC.smul_one]; exact pls_tr ht hq hUU hQ
    · show ChEC.Tr (ph3 (plsF (plsF _ _) tp)) (ChEC.padd _ (ChEC.padd (ChEC.smul 1 P) .O))
      rw [ChEC.padd_O, ChEC.smul_one]; exact pls_tr ht hp hUU hP
    · show ChEC.Tr (ph3 (plsF (plsF _ _) (plsF tp tq))) (ChEC.padd _ (ChEC.padd (ChEC.smul 1 P) (ChEC.smul 1 Q)))
      rw [ChEC.smul_one, ChEC.smul_one]; exact pls_tr ht (pls_tr hp hq hP hQ) hUU (ChEC.on_padd ChEC.goodP hP hQ)
theorem mulA {M : Nat} [NeZero M] (a b c : Fin M) : a * b * c = a * (b * c) := by grind
theorem mul1 {M : Nat} [NeZero M] (a : Fin M) : a * 1 = a := by grind
/-- a point of the group, as numbers -/
def ptN : PtF → PtN
  | .O => (0, 0, true)
  | .A x y => (x.val, y.val, false)
theorem ph_is {v : Nat} {x : FP} (h : v < ChEC.PP) (e : ChEC.ph v = x) : v = x.val := by
  rw [← e]; exact (Nat.mod_eq_of_lt h).symm
theorem drop_pt {t : T3} {P : PtF} (h : ChEC.Tr (ph3 t) P) (hz : t.2.2 < ChEC.PP) : dropF t = ptN P := by
  unfold dropF
  cases P with
  | O =>
    have h0 : (ChEC.ph t.2.2 : FP) = 0 := h.2.1
    have : t.2.2 = 0 := ChEC.ph_inj hz PP_pos (h0.trans ChEC.ph_zero.symm)
    rw [this]; rfl
  | A x y =>
    obtain ⟨h1, h2, h3⟩ := h
    have h1 : (ChEC.ph t.2.2 : FP) ≠ 0 := h1
    have h2 : (ChEC.ph t.1 : FP) = x * ChEC.ph t.2.2 := h2
    have h3 : (ChEC.ph t.2.1 : FP) = y * ChEC.ph t.2.2 := h3
    have hz0 : Nat.beq t.2.2 0 = false := by
      cases hb : Nat.beq t.2.2 0 with
      | false => rfl
      | true => exfalso; rw [Nat.eq_of_beq_eq_true hb] at h1; exact h1 rfl
    have hi := ChEC.Dom.inv _ h1
    have ex : fmul 0 t.1 (finv 0 t.2.2) = x.val := ph_is (fmul_lt _ _) (by rw [ph_fmul, ph_finv, h2, mulA, hi, mul1])
    have ey : fmul 0 t.2.1 (finv 0 t.2.2) = y.val := ph_is (fmul_lt _ _) (by rw [ph_fmul, ph_finv, h3, mulA, hi, mul1])
    rw [hz0, ex, ey]; rfl
end Go.Proofs.YtdcganigfihkjaaDoor
/- P-256: the base point's order; what Both computes of formed points. -/
namespace Go.Proofs.YtdcganigfihkjaaDoor
open Go Go.Ab Go.RowKit Go.Chr
set_option maxRecDepth 100000

/-- the group's point of numbers -/
def ptP (t : PtN) : PtF := match t with
  | (_, _, true) => .O
  | (x, y, false) => .A (ChEC.ph x) (ChEC.ph y)
def Formed (t : PtN) : Prop := t = (0, 0, true) ∨ (t.2.2 = false ∧ onF t.1 t.2.1 = true)
theorem onF_lt {x y : Nat} (h : onF x y = true) : x < ChEC.PP ∧ y < ChEC.PP := by
  unfold onF at h
  simp only [Bool.and_eq_true, fbelow_eq, decide_eq_true_eq, pI0] at h
  exact h.1
theorem lin3 {M : Nat} [NeZero M] (x b : Fin M) : x * x * x - (x + (x + x)) + b = x * x * x - 3 * x + b := by grind
theorem onF_on {x y : Nat} (h : onF x y = true) : On (.A (ChEC.ph x) (ChEC.ph y)) := by
  unfold onF at h
  simp only [Bool.and_eq_true, Nat.beq_eq] at h
  have e : (ChEC.ph (fmul 0 y y) : FP) = ChEC.ph (fadd 0 (fsub 0 (fmul 0 (fmul 0 x x) x) (fadd 0 x (fadd 0 x x))) cvB) := by rw [h.2]
  rw [cvB_bP] at e
  simp only [ph_fadd, ph_fsub, ph_fmul] at e
  show (ChEC.ph y : FP) * ChEC.ph y = ChEC.ph x * ChEC.ph x * ChEC.ph x - 3 * ChEC.ph x + bF
  rw [e, lin3]
theorem on_ptP {t : PtN} (h : Formed t) : On (ptP t) := by
  rcases h with rfl | ⟨h1, h2⟩
  · trivial
  · obtain ⟨x, y, n⟩ := t
    have h1 : n = false := h1
    subst h1
    exact onF_on h2
theorem lift_tr {t : PtN} (h : Formed t) : ChEC.Tr (ph3 (liftF t.1 t.2.1 t.2.2)) (ptP t) := by
  rcases h with rfl | ⟨h1, h2⟩
  · exact ChEC.tr_tri .O
  · obtain ⟨x, y, n⟩ := t
    have h1 : n = false := h1
    subst h1
    have h2 : onF x y = true := h2
    unfold liftF
    dsimp only
    rw [h2]
    exact ChEC.tr_tri (.A (ChEC.ph x) (ChEC.ph y))
theorem both_z (u v : Nat) (p q : T3) : ∀ n, (bothF u v p q n).2.2 < ChEC.PP := by
  intro n
  cases n with
  | zero => exact PP_pos
  | succ n =>
    show (stepF u v p q (255 - n) (bothF u v p q n)).2.2 < _
    unfold stepF
    cases decide (bitI u (255 - n : Nat) + 2 * bitI v (255 - n : Nat) > 0) <;> exact pls_lt _ _
/-- what Both computes -/
theorem both_pt {u v : Nat} {p q : PtN} (hu : u < 2 ^ 256) (hv : v < 2 ^ 256) (hp : Formed p) (hq : Formed q) :
    bothP u p v q = ptN (ChEC.padd (ChEC.smul u (ptP p)) (ChEC.smul v (ptP q))) := by
  unfold bothP
  refine drop_pt ?_ (both_z _ _ _ _ _)
  have h := both_tr (lift_tr hp) (lift_tr hq) (on_ptP hp) (on_ptP hq) hu hv 256 (Nat.le_refl _)
  simpa using h
theorem formedG : Formed gPt := .inr ⟨rfl, onG⟩
abbrev GP : PtF := ptP gPt
theorem onGP : On GP := on_ptP formedG
/-- the order -/
theorem order_z : Nat.beq (boC 115792089210356248762697446949407573529996955224135760342422259061068512044369 0 (gX, gY, 1) (gX, gY, 1) 256).2.2 0 = true := by kernel_rfl
theorem orderG : ChEC.smul 115792089210356248762697446949407573529996955224135760342422259061068512044369 GP = .O := by
  have h := both_pt (u := 115792089210356248762697446949407573529996955224135760342422259061068512044369) (v := 0) (Nat.lt_of_lt_of_le (Nat.le_of_ble_eq_true (by kernel_rfl)) (Nat.le_refl _)) (Nat.two_pow_pos _) formedG formedG
  unfold bothP at h
  have e : dropF (bothF 115792089210356248762697446949407573529996955224135760342422259061068512044369 0 (liftF gX gY false) (liftF gX gY false) 256) = (0, 0, true) := by
    rw [liftG, boC_eq]; unfold dropF; rw [order_z]; rfl
  have h : (0, 0, true) = ptN (ChEC.padd (ChEC.smul 115792089210356248762697446949407573529996955224135760342422259061068512044369 GP) .O) := e.symm.trans h
  rw [ChEC.padd_O] at h
  generalize ChEC.smul 115792089210356248762697446949407573529996955224135760342422259061068512044369 GP = R at h ⊢
  cases R with
  | O => rfl
  | A x y => exfalso; unfold ptN at h; injection h with _ h; injection h with _ h; cases h
end Go.Proofs.YtdcganigfihkjaaDoor
/- Bytes and back; what a signature is. -/
namespace Go.Proofs.YtdcganigfihkjaaDoor
open Go Go.Ab Go.RowKit Go.Chr
set_option maxRecDepth 100000

theorem natOf_natL {x : Nat} (h : x < two256) : natOf (natL x) = x := by
  have := natOf_mod (l := natL x) rfl (fun v hv => okI_u64.2 (by have := natL_bd x v hv; omega)) rfl
  rw [this, Nat.mod_eq_of_lt h]
theorem leN_leL (x : Nat) : leN (leL x) = natL x := by
  rw [← leB_leL, leN_leB _ _ _ _ (natL_bd x)]; rfl
theorem beW_beL {x : Nat} (h : x < two256) : beW (beL x) = x := by
  unfold beW beL
  rw [List.reverse_reverse, leN_leL, natOf_natL h]
theorem derDe_derEn {r s : Nat} (hr : r < two256) (hs : s < two256) : derDe (derEn r s) = (r, s, true) := by
  unfold derDe derEn
  rw [decB_derE _ _ (beL_len r) (beL_len s) (beL_ok r) (beL_ok s)]
  unfold beL
  simp only [List.reverse_reverse, leN_leL, natOf_natL hr, natOf_natL hs]
theorem two_PP : ChEC.PP < two256 := Nat.le_of_ble_eq_true (by kernel_rfl)
theorem decF_encF {t : PtN} (h : Formed t) : decF (encF t) = (t, true) := by
  rcases h with rfl | ⟨h1, h2⟩
  · rfl
  · obtain ⟨x, y, n⟩ := t
    have h1 : n = false := h1
    subst h1
    have h2 : onF x y = true := h2
    obtain ⟨hx, hy⟩ := onF_lt h2
    have h256 := two_PP
    have e : encF (x, y, false) = 4 :: (beL x ++ beL y) := by unfold encF; dsimp only; rw [h2]; rfl
    have lx := beL_len x
    have ly := beL_len y
    have e1 : beW (((4 :: (beL x ++ beL y)).drop 1).take 32) = x := by
      rw [List.drop_succ_cons, List.drop_zero, List.take_append_of_le_length (by omega), List.take_of_length_le (by omega), beW_beL (by omega)]
    have e2 : beW ((4 :: (beL x ++ beL y)).drop 33) = y := by
      rw [List.drop_succ_cons, List.drop_append_of_le_length (by omega), List.drop_of_length_le (by omega), List.nil_append, beW_beL (by omega)]
    rw [e]
    unfold decF
    rw [e1, e2, h2]
    have hl : (4 :: (beL x ++ beL y)).length = 65 := by simp [lx, ly]
    rw [hl]
    rfl
theorem nonN_within (k v : List Int) (n : Nat) : ∀ x ∈ nonN k v n, withinF x = true := by
  induction n with
  | zero => intro x hx; cases hx
  | succ n ih =>
    cases h : withinF (beW (nxV (stN k v n).1 (stN k v n).2 (n != 0))) with
    | true =>
      rw [nonN_yes h]
      intro x hx
      rcases List.mem_append.1 hx with hx | hx
      · exact ih x hx
      · rw [List.mem_singleton.1 hx]; exact h
    | false => rw [nonN_no h]; exact ih
theorem within_iff (a : Nat) : withinF a = true ↔ 0 < a ∧ a < pI 1 := by
  unfold withinF
  rw [fbelow_eq]
  cases h : Nat.beq a 0 with
  | true => have := Nat.eq_of_beq_eq_true h; simp; omega
  | false => have : a ≠ 0 := fun e => by subst e; cases h
             simp; omega
/-- what it is that was signed with -/
theorem signed {d : Nat} {m : List Int} (h : signB d m = true) : withinF d = true ∧ ∃ k, withinF k = true ∧ sigOk d (numF m) k = true ∧ signF d m = derEn (sigR k) (sigS d (numF m) k) := by
  unfold signB at h
  cases hw : withinF d with
  | false => rw [hw] at h; cases h
  | true =>
    refine ⟨rfl, ?_⟩
    rw [hw] at h
    have h : (sigAt d (numF m) (noncesF d m)).isSome = true := h
    cases ha : sigAt d (numF m) (noncesF d m) with
    | none => rw [ha] at h; cases h
    | some k =>
      have hm := List.mem_of_find?_eq_some ha
      rw [noncesF_eq] at hm
      refine ⟨k, nonN_within _ _ _ k hm, List.find?_some ha, ?_⟩
      unfold signF sigL
      rw [hw, ha]; rfl
end Go.Proofs.YtdcganigfihkjaaDoor
/- Multiples of the base point, by numbers modulo the order. -/
namespace Go.Proofs.YtdcganigfihkjaaDoor
open Go Go.Ab Go.RowKit Go.Chr
set_option maxRecDepth 100000

abbrev FN := Fin ChEC.NN
theorem pI1 : pI 1 = ChEC.NN := by kernel_rfl
theorem phn_fold (x : Nat) : (ChEC.ph (ffold 1 x) : FN) = ChEC.ph x := by rw [ffold_eq, pI1, ChEC.ph_mod]
theorem phn_add (x y : Nat) : (ChEC.ph (fadd 1 x y) : FN) = ChEC.ph x + ChEC.ph y := by rw [fadd_eq, pI1, ChEC.ph_mod, ChEC.ph_add]
theorem phn_mul (x y : Nat) : (ChEC.ph (fmul 1 x y) : FN) = ChEC.ph x * ChEC.ph y := by rw [fmul_eq, pI1, ChEC.ph_mod, ChEC.ph_mul]
theorem phn_sub (x y : Nat) : (ChEC.ph (fsub 1 x y) : FN) = ChEC.ph x - ChEC.ph y := by rw [fsub_eq]; unfold subI; rw [pI1, ph_subM]
theorem phn_inv (x : Nat) : (ChEC.ph (finv 1 x) : FN) = ChEC.fi (ChEC.ph x) := by rw [finv_eq]; unfold invI; rw [pI1, ChEC.ph_mod, fi_ph]
theorem NN_pos : 0 < ChEC.NN := ChEC.M_pos
theorem orderN : ChEC.smul ChEC.NN GP = .O := orderG
/-- a multiple of the base point -/
def sg (a : FN) : PtF := ChEC.smul a.val GP
theorem on_sg (a : FN) : On (sg a) := ChEC.on_smul ChEC.goodP onGP _
theorem sg_ph (m : Nat) : sg (ChEC.ph m) = ChEC.smul m GP := ChEC.smul_mod ChEC.goodP onGP orderN m
theorem sg_add (a b : FN) : sg (a + b) = ChEC.padd (sg a) (sg b) := by
  unfold sg
  rw [Fin.val_add, ChEC.smul_mod ChEC.goodP onGP orderN, ChEC.smul_add ChEC.goodP onGP]
theorem sg_mul (m : Nat) (a : FN) : ChEC.smul m (sg a) = sg (ChEC.ph m * a) := by
  unfold sg
  rw [← ChEC.smul_mul ChEC.goodP onGP, Fin.val_mul, ChEC.smul_mod ChEC.goodP onGP orderN]
  show ChEC.smul (m * a.val) GP = ChEC.smul (m % ChEC.NN * a.val) GP
  rw [ChEC.smul_mul ChEC.goodP onGP, ChEC.smul_mul ChEC.goodP onGP, ChEC.smul_mod ChEC.goodP (ChEC.on_smul ChEC.goodP onGP _)]
  rw [← ChEC.smul_mul ChEC.goodP onGP, Nat.mul_comm, ChEC.smul_mul ChEC.goodP onGP, orderN, ChEC.smul_O]
theorem sg_zero : sg 0 = .O := rfl
theorem GP_ne : GP ≠ .O := fun h => by cases h
theorem sg_ne {a : FN} (h : a ≠ 0) : sg a ≠ .O := by
  intro e
  have h1 := sg_mul (ChEC.fi a).val a
  rw [e, ChEC.smul_O, ChEC.ph_val, ChEC.fi_mul' h] at h1
  have h2 : sg 1 = GP := by
    have := sg_ph 1
    rw [ChEC.smul_one] at this; exact this
  rw [h2] at h1
  exact GP_ne h1.symm
theorem add_neg' {M : Nat} [NeZero M] (a : Fin M) : a + -a = 0 := by grind
theorem sg_neg (a : FN) : sg (-a) = ChEC.pneg (sg a) := by
  refine ChEC.pneg_of ChEC.goodP (on_sg a) (on_sg _) ?_
  rw [← sg_add, add_neg', sg_zero]
theorem onF_of {x y : FP} (h : On (.A x y)) : onF x.val y.val = true := by
  have h : y * y = x * x * x - 3 * x + bF := h
  unfold onF
  rw [fbelow_eq, fbelow_eq, pI0, decide_eq_true x.isLt, decide_eq_true y.isLt]
  have e : fmul 0 y.val y.val = fadd 0 (fsub 0 (fmul 0 (fmul 0 x.val x.val) x.val) (fadd 0 x.val (fadd 0 x.val x.val))) cvB := by
    refine ChEC.ph_inj (M := ChEC.PP) (fmul_lt _ _) (fadd_lt _ _) ?_
    rw [cvB_bP]
    simp only [ph_fadd, ph_fsub, ph_fmul, ChEC.ph_val]
    rw [h, lin3]
  rw [e]; simp
theorem formed_ptN {P : PtF} (h : On P) : Formed (ptN P) := by
  cases P with
  | O => exact .inl rfl
  | A x y => exact .inr ⟨rfl, onF_of h⟩
theorem ptP_ptN (P : PtF) : ptP (ptN P) = P := by
  cases P with
  | O => rfl
  | A x y => show ChEC.Pt.A (ChEC.ph x.val) (ChEC.ph y.val) = _; rw [ChEC.ph_val, ChEC.ph_val]
theorem both_sg {u v : Nat} (hu : u < 2 ^ 256) (hv : v < 2 ^ 256) (a : FN) : bothP u gPt v (ptN (sg a)) = ptN (sg (ChEC.ph u + ChEC.ph v * a)) := by
  rw [both_pt hu hv formedG (formed_ptN (on_sg a)), ptP_ptN, sg_mul, sg_add, sg_ph]
theorem mul_sg {u : Nat} (hu : u < 2 ^ 256) : bothP u gPt 0 gPt = ptN (sg (ChEC.ph u)) := by
  rw [both_pt hu (Nat.two_pow_pos _) formedG formedG, sg_ph]
  show ptN (ChEC.padd _ .O) = _
  rw [ChEC.padd_O]
end Go.Proofs.YtdcganigfihkjaaDoor
/- A signature is right, and so is its mirror. -/
namespace Go.Proofs.YtdcganigfihkjaaDoor
open Go Go.Ab Go.RowKit Go.Chr
set_option maxRecDepth 100000

theorem NN_256 : ChEC.NN < 2 ^ 256 := Nat.le_of_ble_eq_true (by kernel_rfl)
theorem two_256 : two256 = 2 ^ 256 := by kernel_rfl
theorem ffold_lt (x : Nat) : ffold 1 x < ChEC.NN := by rw [ffold_eq, pI1]; exact Nat.mod_lt _ NN_pos
theorem fmul1_lt (x y : Nat) : fmul 1 x y < ChEC.NN := by rw [fmul_eq, pI1]; exact Nat.mod_lt _ NN_pos
theorem fsub1_lt (x y : Nat) : fsub 1 x y < ChEC.NN := by rw [fsub_eq]; unfold subI subM; rw [pI1]; exact Nat.mod_lt _ NN_pos
theorem within_ph {a : Nat} (h : withinF a = true) : (ChEC.ph a : FN) ≠ 0 := by
  rw [within_iff, pI1] at h
  intro e
  have := ChEC.ph_inj (M := ChEC.NN) h.2 NN_pos (e.trans ChEC.ph_zero.symm)
  omega
theorem within_lt {a : Nat} (h : withinF a = true) : a < 2 ^ 256 := by
  rw [within_iff, pI1] at h
  exact Nat.lt_trans h.2 NN_256
theorem within_of {a : Nat} (h : (ChEC.ph a : FN) ≠ 0) (hl : a < ChEC.NN) : withinF a = true := by
  rw [within_iff, pI1]
  refine ⟨?_, hl⟩
  rcases Nat.eq_zero_or_pos a with h0 | h0
  · subst h0; exact absurd ChEC.ph_zero h
  · exact h0
theorem right_of {z r s d : Nat} {a : FN} (h : ChEC.ph z * ChEC.fi (ChEC.ph s) + ChEC.ph r * ChEC.fi (ChEC.ph s) * ChEC.ph d = a) :
    rightF (ptN (sg (ChEC.ph d))) z r s = (bif (ptN (sg a)).2.2 then false else Nat.beq (ffold 1 (ptN (sg a)).1) r) := by
  unfold rightF
  rw [both_sg (Nat.lt_trans (fmul1_lt _ _) NN_256) (Nat.lt_trans (fmul1_lt _ _) NN_256), phn_mul, phn_mul, phn_inv, h]
theorem pub_sg {d : Nat} (hd : withinF d = true) : pubF d = encF (ptN (sg (ChEC.ph d))) := by
  unfold pubF
  rw [hd, mul_sg (within_lt hd)]; rfl
theorem not_none {P : PtF} (h : P ≠ .O) : (ptN P).2.2 = false := by
  cases P with
  | O => exact absurd rfl h
  | A x y => rfl
theorem ver_of {d r s : Nat} {m : List Int} (hd : withinF d = true) (hr : withinF r = true) (hs : withinF s = true) :
    verF (pubF d) m (derEn r s) = rightF (ptN (sg (ChEC.ph d))) (numF m) r s := by
  have h1 := derDe_derEn (r := r) (s := s) (by rw [two_256]; exact within_lt hr) (by rw [two_256]; exact within_lt hs)
  have h2 := decF_encF (formed_ptN (on_sg (ChEC.ph d)))
  have h3 := not_none (sg_ne (within_ph hd))
  unfold verF
  rw [pub_sg hd, h1, h2]
  dsimp only
  rw [h3, hr, hs]; rfl
theorem ver_out {p m : List Int} {r s : Nat} (hr : r < two256) (hs : s < two256) (h : withinF r = false ∨ withinF s = false) : verF p m (derEn r s) = false := by
  have h1 := derDe_derEn hr hs
  unfold verF
  rw [h1]
  dsimp only
  rcases h with h | h
  · rw [h]; cases (decF p).2 <;> cases (decF p).1.2.2 <;> rfl
  · rw [h]; cases (decF p).2 <;> cases (decF p).1.2.2 <;> cases withinF r <;> rfl
theorem neg_ne {M : Nat} [NeZero M] {a : Fin M} (h : a ≠ 0) : -a ≠ 0 := fun e => h (by grind)
theorem zero_sub' {M : Nat} [NeZero M] (a : Fin M) : 0 - a = -a := by grind
theorem sig_right {d k z : Nat} (hk : withinF k = true) (ok : sigOk d z k = true) :
    withinF (sigR k) = true ∧ withinF (sigS d z k) = true ∧ withinF (fsub 1 0 (sigS d z k)) = true ∧
    rightF (ptN (sg (ChEC.ph d))) z (sigR k) (sigS d z k) = true ∧ rightF (ptN (sg (ChEC.ph d))) z (sigR k) (fsub 1 0 (sigS d z k)) = true := by
  unfold sigOk at ok
  simp only [Bool.and_eq_true, Bool.not_eq_true'] at ok
  have hr0 : sigR k ≠ 0 := fun e => by rw [e] at ok; cases ok.1
  have hs0 : sigS d z k ≠ 0 := fun e => by rw [e] at ok; cases ok.2
  have hrl : sigR k < ChEC.NN := ffold_lt _
  have hsl : sigS d z k < ChEC.NN := fmul1_lt _ _
  have hrw : withinF (sigR k) = true := by rw [within_iff, pI1]; omega
  have hsw : withinF (sigS d z k) = true := by rw [within_iff, pI1]; omega
  have hkp := within_ph hk
  have hsp := within_ph hsw
  have es : (ChEC.ph (sigS d z k) : FN) = (ChEC.ph z + ChEC.ph (sigR k) * ChEC.ph d) * ChEC.fi (ChEC.ph k) := by
    unfold sigS; rw [phn_mul, phn_add, phn_mul, phn_inv]
  have et : (ChEC.ph (fsub 1 0 (sigS d z k)) : FN) = -ChEC.ph (sigS d z k) := by rw [phn_sub, ChEC.ph_zero, zero_sub']
  have htw : withinF (fsub 1 0 (sigS d z k)) = true := within_of (by rw [et]; exact neg_ne hsp) (fsub1_lt _ _)
  have er : sigR k = ffold 1 (ptN (sg (ChEC.ph k))).1 := by unfold sigR; rw [mul_sg (within_lt hk)]
  refine ⟨hrw, hsw, htw, ?_, ?_⟩
  · rw [right_of (ChEC.sum2 hkp es hsp), not_none (sg_ne hkp), ← er]; simp
  · rw [right_of (ChEC.sum1 hkp es hsp et), not_none (sg_ne (neg_ne hkp)), sg_neg]
    have e : (ptN (ChEC.pneg (sg (ChEC.ph k)))).1 = (ptN (sg (ChEC.ph k))).1 := by cases sg (ChEC.ph k) <;> rfl
    rw [e, ← er]; simp
end Go.Proofs.YtdcganigfihkjaaDoor
/- The law EcdsaMirror. -/
namespace Go.Proofs.YtdcganigfihkjaaDoor
open Go Go.Ab Go.RowKit Go.Chr
set_option maxRecDepth 100000

noncomputable def G14 : Tab := G13
theorem big_ge (x : Int) (h0 : 0 ≤ x) (h1 : x ≤ 99) : withinF (natOf ([lb (modR 1) 0, lb (modR 1) 1, lb (modR 1) 2, lb (modR 1) 3].set 0 (IntKind.u64.wrap (lb (modR 1) 0 + IntKind.u64.wrap x)))) = false ∧ natOf ([lb (modR 1) 0, lb (modR 1) 1, lb (modR 1) 2, lb (modR 1) 3].set 0 (IntKind.u64.wrap (lb (modR 1) 0 + IntKind.u64.wrap x))) < two256 := by
  have e0 : lb (modR 1) 0 = 17562291160714782033 := by rw [modR_eq]; kernel_rfl
  have e1 : lb (modR 1) 1 = 13611842547513532036 := by rw [modR_eq]; kernel_rfl
  have e2 : lb (modR 1) 2 = 18446744073709551615 := by rw [modR_eq]; kernel_rfl
  have e3 : lb (modR 1) 3 = 18446744069414584320 := by rw [modR_eq]; kernel_rfl
  rw [e0, e1, e2, e3]
  have ew : IntKind.u64.wrap (17562291160714782033 + IntKind.u64.wrap x) = 17562291160714782033 + x := by rw [wu64_mod, wu64_mod]; omega
  rw [ew]
  have en : natOf ([(17562291160714782033 : Int), 13611842547513532036, 18446744073709551615, 18446744069414584320].set 0 (17562291160714782033 + x)) = 115792089210356248762697446949407573529996955224135760342422259061068512044369 + x.toNat := by
    show (17562291160714782033 + x).toNat + 2 ^ 64 * (13611842547513532036 + 2 ^ 64 * (18446744073709551615 + 2 ^ 64 * 18446744069414584320)) = _
    have e64 : (2 : Nat) ^ 64 = 18446744073709551616 := by decide
    rw [e64]
    omega
  rw [en]
  have hn : ChEC.NN = 115792089210356248762697446949407573529996955224135760342422259061068512044369 := rfl
  have h2 : two256 = 115792089237316195423570985008687907853269984665640564039457584007913129639936 := rfl
  refine ⟨?_, by omega⟩
  cases hw : withinF (115792089210356248762697446949407573529996955224135760342422259061068512044369 + x.toNat) with
  | false => rfl
  | true => rw [within_iff, pI1] at hw; omega
theorem derEn_len (r s : Nat) : (derEn r s).length ≤ 72 := (derE_len _ _ (beL_ne _) (beL_ne _) (beL_len _) (beL_len _)).2
theorem zero_out : withinF 0 = false := rfl
theorem decF_none : (decF [0]).1.2.2 = true := rfl
theorem ver_none {m sig : List Int} : verF [0] m sig = false := by
  unfold verF
  have h : (decF [0]).1.2.2 = true := decF_none
  rw [h]
  cases (derDe sig).2.2 <;> cases (decF [0]).2 <;> rfl
noncomputable def mirrorS : FSpec := fun xs bl => match xs, bl with
  | [.c (.nat mm1 d), .c (.ints .u8 m), .c (.int .u8 ad)], [] => bif Nat.beq mm1 two256 then some (some (m.length ≤ 2000000), ⟨.c (.bool true), [], []⟩) else none
  | _, _ => none
theorem mirror_ok : FnOk CX 3 mirrorS := by
  refine fnOkF hmo G13_ok (fn := Tryd.f3) (c := bodyOf' Tryd.f3) (by kernel_rfl) (by kernel_rfl) (by kernel_rfl) ?_
  intro xs bl p o hF hp
  unfold mirrorS at hF
  split at hF
  · rename_i mm1 d m ad
    obtain ⟨hg, hF⟩ := guard_some hF
    have hg0 := beqN hg
    subst hg0
    injection hF with hF; injection hF with e1 e2; subst e1; subst e2
    have hp : m.length ≤ 2000000 := hp
    refine ⟨Nat.le_of_ble_eq_true (by kernel_rfl), fun X hX hfa => ⟨[], 999, ?_⟩⟩
    refine kto (q := m.length ≤ 2000000 ∧ bif decide ((Nat.cast (R := Int) m.length) > 300) then some (Out.mk (AV.c (CV.bool true)) [] []) = some (Out.mk (AV.c (CV.bool true)) [] []) else bif !signB d m then some (Out.mk (AV.c (CV.bool true)) [] []) = some (Out.mk (AV.c (CV.bool true)) [] []) else (signF d m).length ≤ 1000 ∧ kB 1 ∧ bif (derDe (signF d m)).snd.snd then (m.length ≤ 2000000 ∧ (derEn (derDe (signF d m)).fst (fsub 1 0 (derDe (signF d m)).snd.fst)).length ≤ 1000) ∧ bif verF (pubF d) m (derEn (derDe (signF d m)).fst (fsub 1 0 (derDe (signF d m)).snd.fst)) then (m.length ≤ 2000000 ∧ (derEn (derDe (signF d m)).fst (natOf ([lb (modR 1) 0, lb (modR 1) 1, lb (modR 1) 2, lb (modR 1) 3].set 0 (IntKind.u64.wrap (lb (modR 1) 0 + IntKind.u64.wrap (ad.tmod 100)))))).length ≤ 1000) ∧ bif !verF (pubF d) m (derEn (derDe (signF d m)).fst (natOf ([lb (modR 1) 0, lb (modR 1) 1, lb (modR 1) 2, lb (modR 1) 3].set 0 (IntKind.u64.wrap (lb (modR 1) 0 + IntKind.u64.wrap (ad.tmod 100)))))) then (m.length ≤ 2000000 ∧ (derEn (natOf ([lb (modR 1) 0, lb (modR 1) 1, lb (modR 1) 2, lb (modR 1) 3].set 0 (IntKind.u64.wrap (lb (modR 1) 0 + IntKind.u64.wrap (ad.tmod 100))))) (derDe (signF d m)).snd.fst).length ≤ 1000) ∧ bif !verF (pubF d) m (derEn (natOf ([lb (modR 1) 0, lb (modR 1) 1, lb (modR 1) 2, lb (modR 1) 3].set 0 (IntKind.u64.wrap (lb (modR 1) 0 + IntKind.u64.wrap (ad.tmod 100))))) (derDe (signF d m)).snd.fst) then (m.length ≤ 2000000 ∧ (derEn 0 (derDe (signF d m)).snd.fst).length ≤ 1000) ∧ bif !verF (pubF d) m (derEn 0 (derDe (signF d m)).snd.fst) then (m.length ≤ 2000000 ∧ (signF d m).length ≤ 1000) ∧ some (Out.mk (AV.c (CV.bool !verF [0] m (signF d m))) [] []) = some (Out.mk (AV.c (CV.bool true)) [] []) else some (Out.mk (AV.c (CV.bool false)) [] []) = some (Out.mk (AV.c (CV.bool true)) [] []) else some (Out.mk (AV.c (CV.bool false)) [] []) = some (Out.mk (AV.c (CV.bool true)) [] []) else some (Out.mk (AV.c (CV.bool false)) [] []) = some (Out.mk (AV.c (CV.bool true)) [] []) else some (Out.mk (AV.c (CV.bool false)) [] []) = some (Out.mk (AV.c (CV.bool true)) [] []) else some (Out.mk (AV.c (CV.bool false)) [] []) = some (Out.mk (AV.c (CV.bool true)) [] [])) (by kernel_rfl) ?_
    have had : okI .u8 ad := (hfa.sl 2 _ rfl).1
    rw [okI_u8] at had
    have ht : ad.tmod 100 = ad % 100 := Int.tmod_eq_emod_of_nonneg had.1
    refine ⟨hp, cond_intro (fun _ => rfl) (fun hm => ?_)⟩
    simp at hm
    have hs := signF_len d m
    refine cond_intro (fun _ => rfl) (fun hsb => ⟨by omega, kB1, ?_⟩)
    have hsb : signB d m = true := by simpa using hsb
    obtain ⟨hd, k, hk, ok, e⟩ := signed hsb
    obtain ⟨g1, g2, g3, g4, g5⟩ := sig_right hk ok
    have l1 : sigR k < two256 := by rw [two_256]; exact within_lt g1
    have l2 : sigS d (numF m) k < two256 := by rw [two_256]; exact within_lt g2
    obtain ⟨b1, b2⟩ := big_ge (ad.tmod 100) (by omega) (by omega)
    rw [e, derDe_derEn l1 l2]
    dsimp only
    generalize natOf ([lb (modR 1) 0, lb (modR 1) 1, lb (modR 1) 2, lb (modR 1) 3].set 0 (IntKind.u64.wrap (lb (modR 1) 0 + IntKind.u64.wrap (ad.tmod 100)))) = B at b1 b2 ⊢
    have n1 := derEn_len (sigR k) (fsub 1 0 (sigS d (numF m) k))
    have n2 := derEn_len (sigR k) B
    have n3 := derEn_len B (sigS d (numF m) k)
    have n4 := derEn_len 0 (sigS d (numF m) k)
    have n5 := derEn_len (sigR k) (sigS d (numF m) k)
    rw [ver_of hd g1 g3, g5, ver_out l1 b2 (.inr b1), ver_out b2 l2 (.inl b1), ver_out (by decide) l2 (.inl zero_out), ver_none]
    exact ⟨⟨by omega, by omega⟩, ⟨by omega, by omega⟩, ⟨by omega, by omega⟩, ⟨by omega, by omega⟩, ⟨by omega, by omega⟩, rfl⟩
  · cases hF


end Go.Proofs.YtdcganigfihkjaaDoor
/- What a row lists of the variables is what the walks ask. -/
namespace Go.Proofs.YtdcganigfihkjaaDoor
open Go Go.Ab Go.RowKit Go.Chr
set_option maxRecDepth 100000

def laidL : List (String × DataW Unit) := [("chronicle/field.moduli", Rows.laid_chronicle_field_moduli), ("chronicle/sha256.first", Rows.laid_chronicle_sha256_first), ("chronicle/sha256.constants", Rows.laid_chronicle_sha256_constants), ("chronicle/p256.b", Rows.laid_chronicle_p256_b), ("chronicle/p256.one", Rows.laid_chronicle_p256_one)]
theorem cellsMod : Tryd.prog.cellsOf 67 = 9 := by kernel_rfl
theorem mod_part {w : World} {fuel : Nat} {cs : List Value} {p : List MemPlace} {A B : List Int} {v : Int}
    (h : DataW.trod (fun _ => ()) Tryd.prog w 0 (fun _ => true) false fuel 67 cs = some (.agg [Lib.tabData .u64 A, Lib.tabData .u64 B, .lit (.int .u64 v)], p)) : cs = (A ++ (B ++ [v])).map (Value.int .u64) := by
  obtain ⟨y0, y1, y2, n, e, hl, h0, h1, h2⟩ := Deep.trod_struct3 Tryd.underlying67 h
  injection e with e1 e2
  injection e1 with e1
  injection e1 with e3 e1
  injection e1 with e4 e1
  injection e1 with e5 e1
  obtain ⟨d0, p0⟩ := y0
  obtain ⟨d1, p1⟩ := y1
  obtain ⟨d2, p2⟩ := y2
  dsimp only at e3 e4 e5
  subst e3; subst e4; subst e5
  rw [cellsMod] at hl
  dsimp only at h0 h1 h2
  rw [cellsNat] at h0 h1
  rw [cells64] at h2
  have c0 := Lib.cells_of_tab Tryd.underlying24 Tryd.underlying22 cells64 cellsNat h0
  have c1 := Lib.cells_of_tab Tryd.underlying24 Tryd.underlying22 cells64 cellsNat h1
  obtain ⟨z, c2, e, _⟩ := DataW.trod_int Tryd.underlying22 h2
  injection e with e e'
  injection e with e
  injection e with _ e
  subst e
  have e1 : cs = (cs.drop 0).take 4 ++ ((cs.drop 4).take 4 ++ (cs.drop 8).take 1) := by
    match cs, hl with
    | [_, _, _, _, _, _, _, _, _], _ => rfl
  rw [e1, c0, c1, c2]
  simp
theorem nat_cells {w : World} {fuel : Nat} {cs : List Value} {p : List MemPlace} {A : List Int} (h : DataW.trod (fun _ => ()) Tryd.prog w 0 (fun _ => true) false fuel 24 cs = some (Lib.tabData .u64 A, p)) : cs = A.map (Value.int .u64) :=
  Lib.cells_of_tab Tryd.underlying24 Tryd.underlying22 cells64 cellsNat h
theorem env_blk {W : World} {g t n : Nat} {v : CV} {cs : Array Value} (hh : W.heap[g]? = some (.cells cs t (0, 0))) (hl : cs.size = n) (hv : v.rel (fun k => k < W.heap.size) W cs.toList) :
    g < W.heap.size ∧ ∃ ty esz body xs post, gBlk t n v = .cells ty esz body ∧ Lies (fun _ => none) (fun k => k < W.heap.size) W ⟨g, 0, 0, 1, false⟩ ty esz body [] xs post := by
  refine ⟨?_, t, n, _, cs.toList, [], rfl, by simpa using hh, rfl, ⟨cs.toList, [], by simp, by simpa using hl, hv, rfl⟩, rfl⟩
  rcases Nat.lt_or_ge g W.heap.size with h | h
  · exact h
  · rw [Array.getElem?_eq_none h] at hh; cases hh
theorem mem_of_lookup {g : Nat} {b : Blk'} : ∀ {l : List (Nat × Blk')}, l.lookup g = some b → (g, b) ∈ l
  | [], h => by cases h
  | (k, x) :: l, h => by
    rw [List.lookup_cons] at h
    cases hk : g == k with
    | true => rw [hk] at h; injection h with h; subst h; rw [eq_of_beq hk]; exact List.mem_cons_self ..
    | false => rw [hk] at h; exact List.mem_cons_of_mem _ (mem_of_lookup h)
theorem laid_cells {W : World} {n : String} {d : DataW Unit} {g t : Nat} (h : laidMetH Tryd.prog laidL W) (hsh : W.ShapedOpen Tryd.prog) (hm : (n, d) ∈ laidL) (hg : Tryd.prog.globalNamed n = some g)
    (ht : (Tryd.prog.globals[g]?).map (·.type) = some t) (hlt : Nat.ble (g + 1) Tryd.prog.globals.size = true) (h0 : (((begin Tryd.prog (fun _ _ => 0) default).world.heap[g]?).bind Obj.row?).map Prod.snd = some t) :
    ∃ cs fuel p, W.heap[g]? = some (.cells cs t (0, 0)) ∧ DataW.trod (fun _ => ()) Tryd.prog W 0 (fun _ => true) false fuel t cs.toList = some (d, p) := by
  have h : laidMet Tryd.prog laidL W := h
  obtain ⟨ps, hl, _⟩ := h
  obtain ⟨g', t', cs, fuel, p, h1, h2, h3, h4⟩ := laid_at hl hm
  rw [hg] at h1
  injection h1 with h1
  subst h1
  rw [ht] at h2
  injection h2 with h2
  subst h2
  exact ⟨cs, fuel, p, laid_blk hg h3 hsh (Nat.le_of_ble_eq_true hlt) h0, h4⟩
theorem parts4 {l : List Value} (h : l.length = 36) : l = (l.drop 0).take 9 ++ ((l.drop 9).take 9 ++ ((l.drop 18).take 9 ++ (l.drop 27).take 9)) := by
  rw [List.take_of_length_le (l := l.drop 27) (by simp; omega)]
  have e1 : l.drop 27 = (l.drop 18).drop 9 := by rw [List.drop_drop]
  have e2 : l.drop 18 = (l.drop 9).drop 9 := by rw [List.drop_drop]
  rw [e1, List.take_append_drop, e2, List.take_append_drop, List.drop_zero, List.take_append_drop]
theorem cells4Mod : Tryd.prog.cellsOf 102 = 36 := by kernel_rfl
theorem mod_cells {w : World} {fuel : Nat} {cs : List Value} {p : List MemPlace} (h : DataW.trod (fun _ => ()) Tryd.prog w 0 (fun _ => true) false fuel 102 cs = some (Rows.laid_chronicle_field_moduli, p)) : cs = modL.map (Value.int .u64) := by
  obtain ⟨xs, m, -, e, hl, hx, hi⟩ := DataW.trod_array Tryd.underlying102 h
  injection e with e _
  rw [cells4Mod] at hl
  rw [cellsMod] at hi
  match xs, hx with
  | [(d0, q0), (d1, q1), (d2, q2), (d3, q3)], _ =>
    injection e with e
    injection e with e0 e
    injection e with e1 e
    injection e with e2 e
    injection e with e3 e
    dsimp only at e0 e1 e2 e3
    subst e0; subst e1; subst e2; subst e3
    have h0 := mod_part (A := [18446744073709551615, 4294967295, 0, 18446744069414584321]) (B := [3, 18446744056529682431, 18446744073709551614, 21474836477]) (v := 1) (hi 0 (by omega))
    have h1 := mod_part (A := [17562291160714782033, 13611842547513532036, 18446744073709551615, 18446744069414584320]) (B := [9449762124159643298, 5087230966250696614, 2901921493521525849, 7413256579398063648]) (v := 14758798090332847183) (hi 1 (by omega))
    have h2 := mod_part (A := [18446744073709551597, 18446744073709551615, 18446744073709551615, 9223372036854775807]) (B := [1444, 0, 0, 0]) (v := 9708812670373448219) (hi 2 (by omega))
    have h3 := mod_part (A := [6346243789798364141, 1503914060200516822, 0, 1152921504606846976]) (B := [11819153939886771969, 14991950615390032711, 14910419812499177061, 259310039853996605]) (v := 15183074304973897243) (hi 3 (by omega))
    rw [parts4 hl]
    rw [show (0 : Nat) * 9 = 0 from rfl] at h0
    rw [show (1 : Nat) * 9 = 9 from rfl] at h1
    rw [show (2 : Nat) * 9 = 18 from rfl] at h2
    rw [show (3 : Nat) * 9 = 27 from rfl] at h3
    rw [h0, h1, h2, h3]
    rfl
theorem ok64 {l : List Int} (h : (l.all fun x => decide (0 ≤ x) && decide (x < 18446744073709551616)) = true) : ∀ x ∈ l, okI .u64 x := fun x hx => by
  have := List.all_eq_true.1 h x hx
  simp only [Bool.and_eq_true, decide_eq_true_eq] at this
  exact okI_u64.2 this
theorem ok32 {l : List Int} (h : (l.all fun x => decide (0 ≤ x) && decide (x < 4294967296)) = true) : ∀ x ∈ l, okI .u32 x := fun x hx => by
  have := List.all_eq_true.1 h x hx
  simp only [Bool.and_eq_true, decide_eq_true_eq] at this
  exact okI_u32.2 this
theorem size_map {cs : Array Value} {k : IntKind} {l : List Int} {n : Nat} (h : cs.toList = l.map (Value.int k)) (hn : l.length = n) : cs.size = n := by
  rw [← Array.length_toList, h, List.length_map, hn]
theorem env_of_laid {W : World} (h : laidMetH Tryd.prog laidL W) (hsh : W.ShapedOpen Tryd.prog) : Env CX (fun k => k < W.heap.size) W := by
  refine ⟨fun k hk => hk, fun g blk hg => ?_⟩
  have hm := mem_of_lookup hg
  unfold CX at hm
  simp only [List.mem_cons, List.not_mem_nil, or_false] at hm
  rcases hm with e | e | e | e | e <;> injection e with e1 e2 <;> subst e1 <;> subst e2
  · obtain ⟨cs, fuel, p, h1, h2⟩ := laid_cells (d := Rows.laid_chronicle_field_moduli) (n := "chronicle/field.moduli") (g := 1) (t := 102) h hsh (.head _) (by kernel_rfl) (by kernel_rfl) (by kernel_rfl) (by kernel_rfl)
    have hc := mod_cells h2
    exact env_blk h1 (size_map hc rfl) ⟨hc, rfl, ok64 (by kernel_rfl)⟩
  · obtain ⟨cs, fuel, p, h1, h2⟩ := laid_cells (d := Rows.laid_chronicle_p256_one) (n := "chronicle/p256.one") (g := 0) (t := 24) h hsh (.tail _ (.tail _ (.tail _ (.tail _ (.head _))))) (by kernel_rfl) (by kernel_rfl) (by kernel_rfl) (by kernel_rfl)
    have hc := nat_cells (A := [1, 0, 0, 0]) h2
    exact env_blk h1 (size_map hc rfl) ⟨hc, Nat.le_of_ble_eq_true (by kernel_rfl), Nat.le_refl _⟩
  · obtain ⟨cs, fuel, p, h1, h2⟩ := laid_cells (d := Rows.laid_chronicle_p256_b) (n := "chronicle/p256.b") (g := 2) (t := 24) h hsh (.tail _ (.tail _ (.tail _ (.head _)))) (by kernel_rfl) (by kernel_rfl) (by kernel_rfl) (by kernel_rfl)
    have hc := nat_cells (A := natL cvB) h2
    exact env_blk h1 (size_map hc rfl) ⟨hc, Nat.le_of_ble_eq_true (by kernel_rfl), Nat.le_refl _⟩
  · obtain ⟨cs, fuel, p, h1, h2⟩ := laid_cells (d := Rows.laid_chronicle_sha256_first) (n := "chronicle/sha256.first") (g := 3) (t := 93) h hsh (.tail _ (.head _)) (by kernel_rfl) (by kernel_rfl) (by kernel_rfl) (by kernel_rfl)
    have hc := Lib.cells_of_tab (k := .u32) (zs := shaH) Tryd.underlying93 Tryd.underlying91 (by kernel_rfl) (by kernel_rfl) h2
    exact env_blk h1 (size_map hc rfl) ⟨hc, rfl, ok32 (by kernel_rfl)⟩
  · obtain ⟨cs, fuel, p, h1, h2⟩ := laid_cells (d := Rows.laid_chronicle_sha256_constants) (n := "chronicle/sha256.constants") (g := 4) (t := 116) h hsh (.tail _ (.tail _ (.head _))) (by kernel_rfl) (by kernel_rfl) (by kernel_rfl) (by kernel_rfl)
    have hc := Lib.cells_of_tab (k := .u32) (zs := shaK) Tryd.underlying116 Tryd.underlying91 (by kernel_rfl) (by kernel_rfl) h2
    exact env_blk h1 (size_map hc rfl) ⟨hc, rfl, ok32 (by kernel_rfl)⟩
/-- a slice of bytes that comes in -/
theorem bytes_val {ι : Nat → Option Ab.Loc} {W : World} {v : Value} {l : List Int} (h : RI W .u8 v l) (hb : ∀ x ∈ l, 0 ≤ x ∧ x < 256) : (AV.c (.ints .u8 l)).val ι (fun k => k < W.heap.size) W v := by
  obtain ⟨A, c, rfl, hc, _, hr⟩ := h
  exact ⟨⟨A, c, rfl, hc, fun h0 => by obtain ⟨ad, e, h1, h2⟩ := hr h0; exact ⟨ad, e, h1, h2⟩⟩, fun x hx => okI_u8.2 (hb x hx)⟩
theorem limbs_val' {ι : Nat → Option Ab.Loc} {N : Nat → Prop} {w : World} {L : List Int} {x : Nat} (h : x < two256 ∧ natL x = L) : (AV.c (.nat two256 x)).val ι N w (.agg (L.map (Value.int .u64)).toArray) :=
  ⟨_, rfl, by rw [← h.2], h.1, Nat.le_refl _⟩
/-- a world that holds what the variables' initialisers lay -/
def cellsB (o : Obj) (cs : Array Value) : Obj := match o with
  | .cells _ t fr => .cells cs t fr
  | o => o
noncomputable def laidHeap (h : Array Obj) : Array Obj :=
  let h := h.modify 1 fun o => cellsB o (modL.map (Value.int .u64)).toArray
  let h := h.modify 0 fun o => cellsB o #[.int .u64 1, .int .u64 0, .int .u64 0, .int .u64 0]
  let h := h.modify 2 fun o => cellsB o #[.int .u64 4309448131093880907, .int .u64 7285987128567378166, .int .u64 12964664127075681980, .int .u64 6540974713487397863]
  let h := h.modify 3 fun o => cellsB o (shaH.map (Value.int .u32)).toArray
  h.modify 4 fun o => cellsB o (shaK.map (Value.int .u32)).toArray
noncomputable def laidWorld (os : Os) : World := { World.holding Tryd.prog os ⟨#[], #[], []⟩ with heap := laidHeap (World.holding Tryd.prog os ⟨#[], #[], []⟩).heap }
end Go.Proofs.YtdcganigfihkjaaDoor
/- A slice's length, by the bulk of what it reads as; a byte that comes in. -/
namespace Go.Proofs.YtdcganigfihkjaaDoor
open Go Go.Ab Go.RowKit Go.Chr Go.ChangeShapes Go.WideShapes Go.ChangeAt Go.Joins
set_option maxRecDepth 100000
theorem bulk_one {H : Type} (d : DataW H) : 1 ≤ Rows.uptoBulk d := by
  cases d with
  | lit l => cases l <;> simp [Rows.uptoBulk]
  | _ => simp [Rows.uptoBulk]
theorem bulk_len {H : Type} : ∀ l : List (DataW H), l.length ≤ Rows.uptoBulkAll l
  | [] => by simp [Rows.uptoBulkAll]
  | x :: r => by
    have h1 := bulk_one x
    have h2 := bulk_len r
    simp only [Rows.uptoBulkAll, List.length_cons]; omega
theorem bytes_bulk {H : Type} {enc : TypeId × Value → H} {w : World} {fuel base : Nat} {sp : Nat → Bool} {held : Bool} {a : Option Addr} {len cap : Nat} {d : DataW H} {p : List MemPlace}
    (h : DataW.trod enc Tryd.prog w base sp held fuel 25 [.slice a len cap] = some (d, p)) : len ≤ Rows.uptoBulk d := by
  rcases open_ints Tryd.underlying25 Tryd.underlying5 (by kernel_rfl) h with ⟨hcs, _⟩ | ⟨x, l, c, zs, hcs, _, hl, hm, hz, hy, _, _⟩
  · simp at hcs
    omega
  · simp at hcs
    obtain ⟨rfl, rfl, rfl⟩ := hcs
    injection hy with hy _
    have hzl : len ≤ zs.length := by rw [hz]; split <;> omega
    have h1 := bulk_len (lits (H := H) .u8 (zs.take len))
    have h2 : (lits (H := H) .u8 (zs.take len)).length = len := by unfold lits; rw [List.length_map, List.length_take]; omega
    rw [hy]
    simp only [Rows.uptoBulk]; omega
theorem open_u8 {H : Type} {enc : TypeId × Value → H} {w : World} {r : Reach} {b0 base : Nat} {sp : Nat → Bool} {held : Bool} {v : Value} {d : DataW H} {p : List MemPlace}
    (hv : Value.okWide Tryd.prog w r b0 5 v) (h : DataW.Trod enc Tryd.prog w base sp held 5 v d p) : ∃ x : Int, v = .int .u8 x ∧ 0 ≤ x ∧ x < 256 := by
  obtain ⟨x, rfl, _, _, hw⟩ := open_int Tryd.underlying5 hv h
  have := bounds_u8 hw
  exact ⟨x, rfl, by omega, by omega⟩
end Go.Proofs.YtdcganigfihkjaaDoor
/- EcdsaMirror: the row, and its tied card. -/
namespace Go.Proofs.YtdcganigfihkjaaDoor
open Go Go.Ab Go.ChangeShapes Go.WideShapes Go.ChangeAt Go.RowKit Go.Chr Go.Joins
set_option maxRecDepth 100000

theorem ecdsaMirror_contract (H : Type) (enc : TypeId × Value → H) (W : World) (base : Nat) (args : Array Value) (ds gs : List (DataW H)) (before : List MemPlace)
    (hval0 : ∀ (j : Nat) t v, Tryd.f3.params[j]? = some t → args[j]? = some v → Value.okWide Tryd.prog W .any base t v)
    (hW : DataW.Whole enc Tryd.prog Tryd.f3.params.toList Rows.ecdsaMirrorSpec.vars false W args.toList ds gs before) (hk : Rows.uptoBulkAll (ds ++ gs) ≤ 1048576) (hL : laidMetH Tryd.prog laidL W) (hsh : W.ShapedOpen Tryd.prog) :
    Calls Tryd.prog 3 args W fun e W' => ∃ v, e = .returned v ∧ Rows.ecdsaMirrorSpec.post enc Tryd.prog Tryd.f3 false true false false W args v W' := by
  have hval : ∀ (j : Nat) t v, Tryd.f3.params[j]? = some t → args[j]? = some v → Value.okWide Tryd.prog W .any base t v := hval0
  have hW' := hW
  obtain ⟨p, q, hA0, hV, rfl, hfz, hnd⟩ := hW
  have hA : DataW.TrodAll enc Tryd.prog W 0 (fun _ => true) true Tryd.f3.params.toList args.toList ds p := hA0
  rw [Tryd.params3] at hA hval
  obtain ⟨v0, vs0, d0, ds0, p0, q0, hargs, rfl, rfl, h0, r0⟩ := trodAll_cons hA
  obtain ⟨v1, vs1, d1, ds1, p1, q1, rfl, rfl, rfl, h1, r1⟩ := trodAll_cons r0
  obtain ⟨v2, vs2, d2, ds2, p2, q2, rfl, rfl, rfl, h2, r2⟩ := trodAll_cons r1
  obtain ⟨rfl, rfl, rfl⟩ := trodAll_nil r2
  obtain rfl : args = #[v0, v1, v2] := by cases args; simp_all
  obtain ⟨rfl, rfl⟩ := trodVars_none hV
  have lt0 : ∀ x ∈ p0, x.block < W.heap.size := by obtain ⟨m, hm⟩ := h0; exact DataW.trod_lt m _ _ _ hm
  have k0 := h0
  have lt1 : ∀ x ∈ p1, x.block < W.heap.size := by obtain ⟨m, hm⟩ := h1; exact DataW.trod_lt m _ _ _ hm
  have k1 := h1
  have lt2 : ∀ x ∈ p2, x.block < W.heap.size := by obtain ⟨m, hm⟩ := h2; exact DataW.trod_lt m _ _ _ hm
  have k2 := h2
  obtain ⟨a0, b0, c0, e0, rfl, hb0⟩ := open_nat (hval 0 24 v0 rfl rfl) h0
  have g0 := natOf_rel (l := [a0, b0, c0, e0]) rfl fun x hx => okI_u64.2 (by have := hb0 x hx; omega)
  obtain ⟨a1, len1, cap1, rfl⟩ := okWide_slice Tryd.underlying25 (hval 1 25 v1 rfl rfl)
  obtain ⟨fuel1, hf1⟩ := h1
  obtain ⟨l1, hl1, -, -, hr1, hy1⟩ := open_bytes hf1
  obtain ⟨x2, rfl, hx2⟩ := open_u8 (hval 2 5 v2 rfl rfl) h2
  clear hA0 hval0
  simp only [List.cons_append, List.nil_append, Rows.uptoBulkAll] at hk
  have hu1 := bytes_bulk hf1
  have hc := top_asked (modes := [true, true, true]) (v := .c (.bool true)) (args := [.c (.nat two256 (natOf [a0, b0, c0, e0])), .c (.ints .u8 l1), .c (.int .u8 x2)]) mirror_ok (by kernel_rfl) (env_of_laid hL hsh) ⟨_, _, rfl, limbs_val g0, ⟨_, _, rfl, bytes_val hr1 hy1, ⟨_, _, rfl, int_val (okI_u8.2 hx2), rfl⟩⟩⟩ (q := l1.length ≤ 2000000) (by omega) (fun k => by kernel_rfl)
  rw [CX_P] at hc
  refine Calls.mono hc fun e W' ⟨u, he, ⟨ι', N', hu⟩, bel⟩ => ?_
  have hu : [u] = [Value.bool true] := hu
  injection hu with hu
  subst hu
  subst he
  exact ⟨_, rfl, _, _, _, [], _, [], hW', trodAll_mk1 (shut_bool Tryd.underlying4 _), (trodAll_cons_mk (Below.trod laidOut (by kernel_rfl) (of_decide_eq_true (by kernel_rfl)) k0 bel lt0) (trodAll_cons_mk (Below.trod laidOut (by kernel_rfl) (of_decide_eq_true (by kernel_rfl)) k1 bel lt1) (trodAll_cons_mk (Below.trod laidOut (by kernel_rfl) (of_decide_eq_true (by kernel_rfl)) k2 bel lt2) trodAll_mk0))), rfl, bel.frame _, fun h => by cases h⟩

theorem ecdsaMirror_laid (os : Os) : laidMet Tryd.prog laidL ((laidWorld os).forCall (fun _ _ => 0) ⟨#[], #[.agg #[.int .u64 0, .int .u64 0, .int .u64 0, .int .u64 0], .slice none 0 0, .int .u8 0], []⟩).memory :=
  laidMet_of_run' 8 (by kernel_rfl) (by kernel_rfl)
theorem ecdsaMirror_reads (os : Os) {H : Type} (enc : TypeId × Value → H) : ∃ places, DataW.whole enc Tryd.prog ((laidWorld os).forCall (fun _ _ => 0) ⟨#[], #[.agg #[.int .u64 0, .int .u64 0, .int .u64 0, .int .u64 0], .slice none 0 0, .int .u8 0], []⟩).memory Tryd.f3.params.toList Rows.ecdsaMirrorSpec.vars false (#[.agg #[.int .u64 0, .int .u64 0, .int .u64 0, .int .u64 0], .slice none 0 0, .int .u8 0] : Array Value).toList 8 = some ([.agg [.lit (.int .u64 0), .lit (.int .u64 0), .lit (.int .u64 0), .lit (.int .u64 0)], .nil, .lit (.int .u8 0)], [], places) :=
  ⟨[], by kernel_rfl⟩
theorem ecdsaMirror_lifted (os : Os) (started : os.Started) (H : Type) (enc : TypeId × Value → H) (F : Stop.Interp) :
    ReturnsInHanded {} Tryd.checked os 3 .any ((Rows.OpenSpec.upto Rows.ecdsaMirrorSpec).preRow enc Tryd.prog Tryd.f3 Rows.ecdsaMirrorUptoRow.domain false Rows.ecdsaMirrorUptoRow.laid) (((Rows.OpenSpec.upto Rows.ecdsaMirrorSpec).at F).post enc Tryd.prog Tryd.f3 false true false false) := by
  obtain ⟨places, hx⟩ := ecdsaMirror_reads os enc
  refine returnsInHanded_of_row (C := Tryd.checked) (s := Rows.OpenSpec.upto Rows.ecdsaMirrorSpec) own started (by kernel_rfl) Tryd.func3
    (witness_row_at (enc := enc) (C := Tryd.checked) false (laidWorld os) #[.agg #[.int .u64 0, .int .u64 0, .int .u64 0, .int .u64 0], .slice none 0 0, .int .u8 0] rfl (by kernel_rfl) (by kernel_rfl) (by kernel_rfl)
      (OpenSpec.preRow_of_cond 8 hx (by kernel_rfl) (fun k hk => by cases hk; kernel_rfl) (by kernel_rfl) (ecdsaMirror_laid os))) ?_
  intro W base args ds gs before hval hW _ hcond _ hL hsh _
  exact ecdsaMirror_contract H enc W base args ds gs before hval hW (of_decide_eq_true (hcond _ rfl)) hL hsh
theorem ecdsaMirror_said : Rows.EcdsaMirrorUptoSaid :=
  OpenClaim.holds_of_cond 3 Tryd.f3 rfl rfl rfl rfl rfl rfl rfl ⟨rfl, rfl, rfl, rfl, rfl⟩ rfl rfl rfl rfl rfl (by kernel_rfl) Tryd.func3 (by kernel_rfl)
    (of_decide_eq_true (by kernel_rfl)) (by unfold Func.isWrapper; first | (rw [if_pos (by decide +kernel)]; kernel_rfl) | (rw [if_neg (by decide +kernel)]; exact ⟨rfl, rfl⟩))
    (fun os started H enc _ F => by rw [OpenClaim.pre_eq_preRow]; exact ecdsaMirror_lifted os started H enc F)
theorem ecdsaMirror_plain (f : FuncId) (fn : Func) (hf : Tryd.pinned.checked.prog.funcNamed "chronicle/chroniclelaw11.EcdsaMirror" = some f) (hfn : Tryd.pinned.checked.prog.funcs[f]? = some fn) :
    false = Tryd.pinned.checked.prog.looks [] ∧ ∀ (j : Nat) t, fn.params[j]? = some t → Tryd.pinned.checked.prog.wantsStandIn t = false := by
  obtain rfl : f = 3 := Option.some.inj ((show Tryd.prog.funcNamed "chronicle/chroniclelaw11.EcdsaMirror" = some 3 by kernel_rfl).symm.trans hf) |>.symm
  obtain rfl : fn = Tryd.f3 := (Option.some.inj (Tryd.func3.symm.trans hfn)).symm
  refine ⟨by kernel_rfl, fun j t ht => ?_⟩
  rw [Tryd.params3] at ht
  have hm := Array.mem_of_getElem? ht
  simp only [List.mem_toArray, List.mem_cons, List.not_mem_nil, or_false] at hm
  rcases hm with rfl | rfl | rfl
  · exact (show Tryd.prog.wantsStandIn 24 = false by kernel_rfl)
  · exact (show Tryd.prog.wantsStandIn 25 = false by kernel_rfl)
  · exact (show Tryd.prog.wantsStandIn 5 = false by kernel_rfl)
theorem ecdsaMirror_card : Rows.EcdsaMirrorUptoCardSaid :=
  Claim7.holds_tied_plain_at .later [] _ _ _ _ ecdsaMirror_said (fun _ h => by cases h) (by kernel_rfl) (fun _ h => by cases h) ecdsaMirrorUpto_row_tie rfl ⟨rfl, rfl⟩ (by kernel_rfl) rfl ecdsaMirror_plain (by kernel_rfl)
end Go.Proofs.YtdcganigfihkjaaDoor
