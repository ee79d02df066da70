import Derived.Test.YtdcganigfihkjaaGreatDoorM14
import Derived.Test.YtdcganigfihkjaaGreatDoorM8
import Derived.ProofKit
import Derived.OpenShut
import Derived.ChangeOld
import Derived.Below
import Derived.Carry
import Derived.Lib.SmallJoins
import Derived.Laws.IdiomArrays
import Derived.Test.YtdcganigfihkjaaGreatDoorM9
import Derived.Test.YtdcganigfihkjaaGreatDoorM7
import Derived.Test.YtdcganigfihkjaaGreatDoorM6
import Derived.Lib.LaidTab
import Derived.Deep.Strs
import Derived.Deep.DeepHandedRow
import Derived.Test.YtdcganigfihkjaaGreatDoorCards
import Derived.Test.YtdcganigfihkjaaGreatDoorTie
import Derived.SevenTiedAt
/- The references ref07.Numbers, ref01 (Small, Bit), ref08's multiples. -/
namespace Go.Proofs.YtdcganigfihkjaaGreatDoor
open Go Go.Ab Go.RowKit Go.Chr
set_option maxRecDepth 100000
noncomputable def G17a : Tab := (103, lift [true, true, true] rWithS) :: (102, lift [true, true] rMacS) :: G16d
theorem G17a_ok : TabOk CX G17a := .cons (lift_ok rWith_ok _) <| .cons (lift_ok rMac_ok _) G16d_ok
def numL (K V : List Int) (n : Nat) : List (List Int) := (List.range n).map fun j => (stN K V (j + 1)).2
theorem numL_succ (K V : List Int) (n : Nat) : numL K V (n + 1) = numL K V n ++ [(stN K V (n + 1)).2] := by unfold numL; rw [List.range_succ, List.map_append]; rfl
theorem numL_len (K V : List Int) (n : Nat) : (numL K V n).length = n := by simp [numL]
def hsR (l : List (List Int)) : Blk' := .cells 82 32 (.rows (.arr .u8 32) l)
def hashZ : Option (TypeId × Nat × Body) := some (82, 32, .rows (.arr .u8 32) [])
def nuI (n : Int) (K V : List Int) (i : Nat) : St := ⟨[(1, .c (.int .i64 n)), (5, .ptr (.l 0) 0 32 0), (6, .ptr (.l 1) 0 32 0), (9, .own 2 32 (List.length (α := List Int) (numL K V i))), (10, .c (.int .i64 (i : Nat)))], [(0, hsB (.arr .u8 32 (stN K V i).1)), (1, hsB (.arr .u8 32 (stN K V i).2)), (2, hsR (numL K V i))], 3, 53⟩
def nuF (l : List (List Int)) : St := ⟨[(9, .own 0 32 (List.length (α := List Int) l))], [(0, hsR l)], 1, 53⟩
theorem nums_l4 {X : Snap} (hX : ∀ b L, X.ι b = some L → b < 0) (n : Int) (K V : List Int) : LOk CX X 4 (loopAt 4 Tryz.f64) (loopW 0 [.slot 9 hashZ] [1, 5, 6, 9, 10] (nuI n K V 0) (0 ≤ n ∧ n ≤ 1000) false (nuF (numL K V n.toNat))) := by
 refine loopW_ok hmo G17a_ok (by kernel_rfl) hX [9] [] (nuI n K V) (fun i => i ≤ n.toNat) (fun i => n.toNat - i) 0 (fun _ => rfl) (fun _ => by omega) ?_
 intro hp i hi hfa
 refine ⟨[], 999, ?_⟩
 refine kto (q := bif decide ((Nat.cast (R := Int) i) < n) then bif decide ((Nat.cast (R := Int) i) > 0) then ((stN K V i).fst.length ≤ 100000000 ∧ ((stN K V i).snd ++ [0]).length ≤ 10000000) ∧ (32 ≤ 100000000 ∧ (stN K V i).snd.length ≤ 10000000) ∧ (32 ≤ 100000000 ∧ 32 ≤ 10000000) ∧ bif (((Body.rows (Tag.arr IntKind.u8 32) (numL K V i)).len + 1) * 32).ble 140737488355328 && ((Body.rows (Tag.arr IntKind.u8 32) (numL K V i)).len + 1).ble 4611686018427387904 then ∃ (v' : Nat), some (St.mk [(1, AV.c (CV.int IntKind.i64 n)), (5, AV.ptr (Base.l 0) 0 32 0), (6, AV.ptr (Base.l 1) 0 32 0), (9, AV.own 2 32 (Body.rows (Tag.arr IntKind.u8 32) (numL K V i ++ [macF shaK shaH (macF shaK shaH (stN K V i).fst ((stN K V i).snd ++ [0])) (macF shaK shaH (macF shaK shaH (stN K V i).fst ((stN K V i).snd ++ [0])) (stN K V i).snd)])).len), (10, AV.c (CV.int IntKind.i64 (IntKind.i64.wrap ((Nat.cast (R := Int) i) + 1))))] [(0, Blk'.cells 82 32 (Body.els [AV.c (CV.arr IntKind.u8 32 (macF shaK shaH (stN K V i).fst ((stN K V i).snd ++ [0])))])), (1, Blk'.cells 82 32 (Body.els [AV.c (CV.arr IntKind.u8 32 (macF shaK shaH (macF shaK shaH (stN K V i).fst ((stN K V i).snd ++ [0])) (macF shaK shaH (macF shaK shaH (stN K V i).fst ((stN K V i).snd ++ [0])) (stN K V i).snd)))])), (2, Blk'.cells 82 32 (Body.rows (Tag.arr IntKind.u8 32) (numL K V i ++ [macF shaK shaH (macF shaK shaH (stN K V i).fst ((stN K V i).snd ++ [0])) (macF shaK shaH (macF shaK shaH (stN K V i).fst ((stN K V i).snd ++ [0])) (stN K V i).snd)])))] 3 53) = some (nuI n K V v') ∧ n.toNat - v' < n.toNat - i ∧ v' ≤ n.toNat else False else ((stN K V i).fst.length ≤ 100000000 ∧ (stN K V i).snd.length ≤ 10000000) ∧ bif (((Body.rows (Tag.arr IntKind.u8 32) (numL K V i)).len + 1) * 32).ble 140737488355328 && ((Body.rows (Tag.arr IntKind.u8 32) (numL K V i)).len + 1).ble 4611686018427387904 then ∃ (v' : Nat), some (St.mk [(1, AV.c (CV.int IntKind.i64 n)), (5, AV.ptr (Base.l 0) 0 32 0), (6, AV.ptr (Base.l 1) 0 32 0), (9, AV.own 2 32 (Body.rows (Tag.arr IntKind.u8 32) (numL K V i ++ [macF shaK shaH (stN K V i).fst (stN K V i).snd])).len), (10, AV.c (CV.int IntKind.i64 (IntKind.i64.wrap ((Nat.cast (R := Int) i) + 1))))] [(0, Blk'.cells 82 32 (Body.els [AV.c (CV.arr IntKind.u8 32 (stN K V i).fst)])), (1, Blk'.cells 82 32 (Body.els [AV.c (CV.arr IntKind.u8 32 (macF shaK shaH (stN K V i).fst (stN K V i).snd))])), (2, Blk'.cells 82 32 (Body.rows (Tag.arr IntKind.u8 32) (numL K V i ++ [macF shaK shaH (stN K V i).fst (stN K V i).snd])))] 3 53) = some (nuI n K V v') ∧ n.toNat - v' < n.toNat - i ∧ v' ≤ n.toNat else False else false = false ∧ some (St.mk [(9, AV.own 0 32 (numL K V i).length)] [(0, Blk'.cells 82 32 (Body.rows (Tag.arr IntKind.u8 32) (numL K V i)))] 1 53) = some (nuF (numL K V n.toNat))) (by kernel_rfl) ?_
 obtain ⟨h0, h1⟩ : 0 ≤ n ∧ n ≤ 1000 := hp
 have hi : i ≤ n.toNat := hi
 have lk : (stN K V i).1.length = 32 := (hfa.h 0 _ rfl 0 _ rfl).1
 have lv : (stN K V i).2.length = 32 := (hfa.h 1 _ rfl 0 _ rfl).1
 have ln := numL_len K V i
 have lb : (Body.rows (Tag.arr .u8 32) (numL K V i)).len = (numL K V i).length := rfl
 rw [lb]
 simp (disch := omega) only [wi]
 refine cond_intro (fun h => ?_) (fun h => ?_)
 ·simp at h
  have hm : n.toNat - (i + 1) < n.toNat - i ∧ i + 1 ≤ n.toNat := by omega
  refine cond_intro (fun h2 => ?_) (fun h2 => ?_)
  ·have e : stN K V (i + 1) = (macF shaK shaH (stN K V i).1 ((stN K V i).2 ++ [0]), macF shaK shaH (macF shaK shaH (stN K V i).1 ((stN K V i).2 ++ [0])) (macF shaK shaH (macF shaK shaH (stN K V i).1 ((stN K V i).2 ++ [0])) (stN K V i).2)) := by
    have hb : (i != 0) = true := by simp at h2 ⊢; omega
    rw [stN_succ, hb]; rfl
   refine ⟨⟨by omega, by simp; omega⟩, ⟨by omega, by omega⟩, ⟨by omega, by omega⟩, cond_at (by simp; omega) ⟨i + 1, ?_, hm⟩⟩
   unfold nuI; rw [numL_succ, e]; rfl
  ·have e : stN K V (i + 1) = ((stN K V i).1, macF shaK shaH (stN K V i).1 (stN K V i).2) := by
    have hb : (i != 0) = false := by simp at h2 ⊢; omega
    rw [stN_succ, hb]; rfl
   refine ⟨⟨by omega, by omega⟩, cond_at (by simp; omega) ⟨i + 1, ?_, hm⟩⟩
   unfold nuI; rw [numL_succ, e]; rfl
 ·simp at h
  have e : i = n.toNat := by omega
  subst e; exact ⟨by simp, rfl⟩
noncomputable def rNumbersS : FSpec := fun xs bl => match xs, bl with
 | [.c (.ints .u8 s), .c (.int .i64 n)], [] => some (some (s.length ≤ 1000000 ∧ 0 ≤ n ∧ n ≤ 1000), ⟨.own 0 32 (List.length (α := List Int) (numL (nwK s) (nwV s) n.toNat)), [], [hsR (numL (nwK s) (nwV s) n.toNat)]⟩)
 | _, _ => none
theorem rNumbers_ok : FnOk CX 64 rNumbersS := by
 refine fnOkF hmo G17a_ok (fn := Tryz.f64) (c := bodyOf' Tryz.f64) (by kernel_rfl) (by kernel_rfl) (by kernel_rfl) ?_
 intro xs bl p o hF hp
 unfold rNumbersS at hF
 split at hF
 ·rename_i s n
  injection hF with hF; injection hF with e1 e2; subst e1; subst e2
  have hp : s.length ≤ 1000000 ∧ 0 ≤ n ∧ n ≤ 1000 := hp
  refine ⟨Nat.le_of_ble_eq_true (by kernel_rfl), fun X hX hfa => ⟨[(4, loopW 0 [.slot 9 hashZ] [1, 5, 6, 9, 10] (nuI n (nwK s) (nwV s) 0) (0 ≤ n ∧ n ≤ 1000) false (nuF (numL (nwK s) (nwV s) n.toNat)))], 999, ?_⟩⟩
  refine kto (q := s.length ≤ 10000000 ∧ (32 ≤ 100000000 ∧ (List.replicate 32 1 ++ [0] ++ s).length ≤ 10000000) ∧ (32 ≤ 100000000 ∧ 32 ≤ 10000000) ∧ s.length ≤ 10000000 ∧ (32 ≤ 100000000 ∧ (macF shaK shaH (macF shaK shaH (List.replicate 32 0) (List.replicate 32 1 ++ [0] ++ s)) (List.replicate 32 1) ++ [1] ++ s).length ≤ 10000000) ∧ (32 ≤ 100000000 ∧ 32 ≤ 10000000) ∧ LOk CX X 4 (loopAt 4 Tryz.f64) (loopW 0 [Path.slot 9 hashZ] [1, 5, 6, 9, 10] (nuI n (nwK s) (nwV s) 0) (0 ≤ n ∧ n ≤ 1000) false (nuF (numL (nwK s) (nwV s) n.toNat))) ∧ some (St.mk [(1, AV.c (CV.int IntKind.i64 n)), (5, AV.ptr (Base.l 0) 0 32 0), (6, AV.ptr (Base.l 1) 0 32 0), (9, AV.own 2 32 0), (10, AV.c (CV.int IntKind.i64 0))] [(0, Blk'.cells 82 32 (Body.els [AV.c (CV.arr IntKind.u8 32 (macF shaK shaH (macF shaK shaH (List.replicate 32 0) (List.replicate 32 1 ++ [0] ++ s)) (macF shaK shaH (macF shaK shaH (List.replicate 32 0) (List.replicate 32 1 ++ [0] ++ s)) (List.replicate 32 1) ++ [1] ++ s)))])), (1, Blk'.cells 82 32 (Body.els [AV.c (CV.arr IntKind.u8 32 (macF shaK shaH (macF shaK shaH (macF shaK shaH (List.replicate 32 0) (List.replicate 32 1 ++ [0] ++ s)) (macF shaK shaH (macF shaK shaH (List.replicate 32 0) (List.replicate 32 1 ++ [0] ++ s)) (List.replicate 32 1) ++ [1] ++ s)) (macF shaK shaH (macF shaK shaH (List.replicate 32 0) (List.replicate 32 1 ++ [0] ++ s)) (List.replicate 32 1))))])), (2, Blk'.cells 82 32 (Body.rows (Tag.arr IntKind.u8 32) []))] 3 53) = some (nuI n (nwK s) (nwV s) 0) ∧ (0 ≤ n ∧ n ≤ 1000) ∧ some (Out.mk (AV.own 0 32 (numL (nwK s) (nwV s) n.toNat).length) [] [Blk'.cells 82 32 (Body.rows (Tag.arr IntKind.u8 32) (numL (nwK s) (nwV s) n.toNat))]) = some (Out.mk (AV.own 0 32 (numL (nwK s) (nwV s) n.toNat).length) [] [hsR (numL (nwK s) (nwV s) n.toNat)])) (by kernel_rfl) ?_
  exact ⟨by omega, ⟨by omega, by simp; omega⟩, ⟨by omega, by omega⟩, by omega, ⟨by omega, by rw [List.length_append, List.length_append, macF_len]; simp; omega⟩, ⟨by omega, by omega⟩, nums_l4 hX _ _ _, by kernel_rfl, hp.2, rfl⟩
 ·cases hF
noncomputable def rSmallS : FSpec := fun xs bl => match xs, bl with
 | [.c (.int .u64 x)], [] => some (none, ⟨.c (.nat two256 (natOf [x, 0, 0, 0])), [], []⟩)
 | _, _ => none
theorem rSmall_ok : FnOk CX 114 rSmallS := by
 refine fnOkF hmo G17a_ok (fn := Tryz.f114) (c := bodyOf' Tryz.f114) (by kernel_rfl) (by kernel_rfl) (by kernel_rfl) ?_
 intro xs bl p o hF hp
 unfold rSmallS at hF
 split at hF
 ·rename_i x
  injection hF with hF; injection hF with e1 e2; subst e1; subst e2
  refine ⟨Nat.le_of_ble_eq_true (by kernel_rfl), fun X hX hfa => ⟨[], 999, ?_⟩⟩
  refine kto (q := some (Out.mk (AV.c (CV.nat two256 (natOf (((([lb 0 0, lb 0 1, lb 0 2, lb 0 3].set 0 x).set 1 0).set 2 0).set 3 0)))) [] []) = some (Out.mk (AV.c (CV.nat two256 (natOf [x, 0, 0, 0]))) [] [])) (by kernel_rfl) ?_
  rfl
 ·cases hF
def lbN (x i : Nat) : Nat := x / 2 ^ (64 * i) % 18446744073709551616
theorem bit_of (x : Nat) {a b : Nat} (hb : b < 64) : lbN x a / 2 ^ b % 2 = x / 2 ^ (64 * a + b) % 2 := by
 unfold lbN
 rw [Nat.pow_add, ← Nat.div_div_eq_div_mul]
 generalize x / 2 ^ (64 * a) = z
 have h : 18446744073709551616 = 2 ^ b * 2 ^ (64 - b) := by
  rw [← Nat.pow_add, show b + (64 - b) = 64 by omega]
 rw [h, Nat.mod_mul_right_div_self]
 exact Nat.mod_mod_of_dvd _ ⟨2 ^ (64 - b - 1), by rw [← Nat.pow_succ']; congr 1; omega⟩
def biI (n : Int) (y k : Nat) : St := ⟨[(1, .c (.int .i64 n)), (5, .c (.int .u64 ((y / 2 ^ k : Nat) : Int))), (6, .c (.int .i64 (k : Nat)))], [], 0, 28⟩
def biF (y k : Nat) : St := ⟨[(5, .c (.int .u64 ((y / 2 ^ k : Nat) : Int)))], [], 0, 28⟩
theorem bit_l0 {X : Snap} (hX : ∀ b L, X.ι b = some L → b < 0) (n : Int) (y : Nat) : LOk CX X 0 (loopAt 0 Tryz.f113) (loopW 0 [] [1, 5, 6] (biI n y 0) (0 ≤ n ∧ n ≤ 255 ∧ y < 18446744073709551616) false (biF y (n % 64).toNat)) := by
 refine loopW_ok hmo G17a_ok (by kernel_rfl) hX [5] [] (biI n y) (fun i => i ≤ (n % 64).toNat) (fun i => (n % 64).toNat - i) 0 (fun _ => rfl) (fun _ => by omega) ?_
 intro hp k hk hfa
 refine ⟨[], 999, ?_⟩
 refine kto (q := bif decide ((Nat.cast (R := Int) k) < n.tmod 64) then ∃ (v' : Nat), some (St.mk [(1, AV.c (CV.int IntKind.i64 n)), (5, AV.c (CV.int IntKind.u64 (IntKind.u64.wrap ((Nat.cast (R := Int) (y / 2 ^ k)).tdiv 2)))), (6, AV.c (CV.int IntKind.i64 (IntKind.i64.wrap ((Nat.cast (R := Int) k) + 1))))] [] 0 28) = some (biI n y v') ∧ (n % 64).toNat - v' < (n % 64).toNat - k ∧ v' ≤ (n % 64).toNat else false = false ∧ some (St.mk [(5, AV.c (CV.int IntKind.u64 (Nat.cast (R := Int) (y / 2 ^ k))))] [] 0 28) = some (biF y (n % 64).toNat)) (by kernel_rfl) ?_
 obtain ⟨h0, h1, hy⟩ : 0 ≤ n ∧ n ≤ 255 ∧ y < 18446744073709551616 := hp
 have hk : k ≤ (n % 64).toNat := hk
 have e1 : n.tmod 64 = n % 64 := Int.tmod_eq_emod_of_nonneg h0
 have e2 : ((y / 2 ^ k : Nat) : Int).tdiv 2 = ((y / 2 ^ (k + 1) : Nat) : Int) := by
  rw [Int.tdiv_eq_ediv_of_nonneg (Int.natCast_nonneg _), Nat.pow_succ, ← Nat.div_div_eq_div_mul, Int.natCast_ediv]; rfl
 have e3 : y / 2 ^ (k + 1) ≤ y := Nat.div_le_self _ _
 have e4 : IntKind.u64.wrap ((y / 2 ^ (k + 1) : Nat) : Int) = ((y / 2 ^ (k + 1) : Nat) : Int) := by
  generalize y / 2 ^ (k + 1) = z at e3 ⊢
  exact wu64 (by omega)
 rw [e1, e2, e4]
 simp (disch := omega) only [wi]
 refine cond_intro (fun h => ?_) (fun h => ?_)
 ·simp at h
  exact ⟨k + 1, rfl, by omega, by omega⟩
 ·simp at h
  have e : k = (n % 64).toNat := by omega
  subst e; exact ⟨by simp, rfl⟩
noncomputable def rBitS : FSpec := fun xs bl => match xs, bl with
 | [.c (.nat mm1 x), .c (.int .i64 n)], [] => bif Nat.beq mm1 two256 then some (some (0 ≤ n ∧ n ≤ 255), ⟨.c (.int .i64 (bitI x n)), [], []⟩) else none
 | _, _ => none
theorem rBit_ok : FnOk CX 113 rBitS := by
 refine fnOkF hmo G17a_ok (fn := Tryz.f113) (c := bodyOf' Tryz.f113) (by kernel_rfl) (by kernel_rfl) (by kernel_rfl) ?_
 intro xs bl p o hF hp
 unfold rBitS at hF
 split at hF
 ·rename_i mm1 x n
  obtain ⟨hg, hF⟩ := guard_some hF
  have hg0 := beqN hg
  subst hg0
  injection hF with hF; injection hF with e1 e2; subst e1; subst e2
  have hp : 0 ≤ n ∧ n ≤ 255 := hp
  refine ⟨Nat.le_of_ble_eq_true (by kernel_rfl), fun X hX hfa => ⟨[(0, loopW 0 [] [1, 5, 6] (biI n (lbN x (n / 64).toNat) 0) (0 ≤ n ∧ n ≤ 255 ∧ lbN x (n / 64).toNat < 18446744073709551616) false (biF (lbN x (n / 64).toNat) (n % 64).toNat))], 999, ?_⟩⟩
  refine kto (q := bif decide (n < 0) then some (Out.mk (AV.c (CV.int IntKind.i64 0)) [] []) = some (Out.mk (AV.c (CV.int IntKind.i64 (bitI x n))) [] []) else bif decide (n > 255) then some (Out.mk (AV.c (CV.int IntKind.i64 0)) [] []) = some (Out.mk (AV.c (CV.int IntKind.i64 (bitI x n))) [] []) else bif decide (0 ≤ IntKind.i64.wrap (n.tdiv 64)) && decide (IntKind.i64.wrap (n.tdiv 64) < (Nat.cast (R := Int) 4)) then LOk CX X 0 (loopAt 0 Tryz.f113) (loopW 0 [] [1, 5, 6] (biI n (lbN x (n / 64).toNat) 0) (0 ≤ n ∧ n ≤ 255 ∧ lbN x (n / 64).toNat < 18446744073709551616) false (biF (lbN x (n / 64).toNat) (n % 64).toNat)) ∧ some (St.mk [(1, AV.c (CV.int IntKind.i64 n)), (5, AV.c (CV.int IntKind.u64 (lb x (0 + (IntKind.i64.wrap (n.tdiv 64)).toNat * 1)))), (6, AV.c (CV.int IntKind.i64 0))] [] 0 28) = some (biI n (lbN x (n / 64).toNat) 0) ∧ (0 ≤ n ∧ n ≤ 255 ∧ lbN x (n / 64).toNat < 18446744073709551616) ∧ some (Out.mk (AV.c (CV.int IntKind.i64 (IntKind.i64.wrap ((Nat.cast (R := Int) (lbN x (n / 64).toNat / 2 ^ (n % 64).toNat)).tmod 2)))) [] []) = some (Out.mk (AV.c (CV.int IntKind.i64 (bitI x n))) [] []) else False) (by kernel_rfl) ?_
  have e1 : n.tdiv 64 = n / 64 := Int.tdiv_eq_ediv_of_nonneg hp.1
  have e2 : ((lbN x (n / 64).toNat / 2 ^ (n % 64).toNat : Nat) : Int).tmod 2 = ((lbN x (n / 64).toNat / 2 ^ (n % 64).toNat % 2 : Nat) : Int) := by
   rw [Int.tmod_eq_emod_of_nonneg (Int.natCast_nonneg _)]; rfl
  have e3 := bit_of x (a := (n / 64).toNat) (b := (n % 64).toNat) (by omega)
  have e4 : 64 * (n / 64).toNat + (n % 64).toNat = n.toNat := by omega
  have e5 := Nat.mod_lt (lbN x (n / 64).toNat / 2 ^ (n % 64).toNat) (show 0 < 2 by omega)
  rw [e1, e2]
  simp (disch := omega) only [wi, wu64, Nat.mul_one, Nat.zero_add]
  rw [bitI_eq, ← e4, ← e3]
  refine cond_no (by simp; omega) <| cond_no (by simp; omega) <| cond_at (by simp; omega) ⟨bit_l0 hX _ _, ?_, ⟨hp.1, hp.2, Nat.mod_lt _ (by decide)⟩, rfl⟩
  unfold biI
  rw [Nat.pow_zero, Nat.div_one]; rfl
 ·cases hF
end Go.Proofs.YtdcganigfihkjaaGreatDoor
/- The reference ref08: points by three numbers. -/
namespace Go.Proofs.YtdcganigfihkjaaGreatDoor
open Go Go.Ab Go.RowKit Go.Chr
set_option maxRecDepth 100000
noncomputable def G18a : Tab := (64, lift [true, true] rNumbersS) :: (114, lift [true] rSmallS) :: (113, lift [true, true] rBitS) :: G17a
theorem G18a_ok : TabOk CX G18a := .cons (lift_ok rNumbers_ok _) <| .cons (lift_ok rSmall_ok _) <| .cons (lift_ok rBit_ok _) G17a_ok
noncomputable def jlF (x y : Nat) (n : Bool) : T3 := bif n || !onF x y then (0, 0, 0) else (x, y, 1)
noncomputable def jLiftS : FSpec := fun xs bl => match xs, bl with
 | [.c (.pr (.nat mm1 x) (.pr (.nat mm2 y) (.pr (.bool n) .nl)))], [] => bif Nat.beq mm1 two256 && Nat.beq mm2 two256 then some (none, ⟨.c (cv3 (jlF x y n)), [], []⟩) else none
 | _, _ => none
theorem jLift_ok : FnOk CX 93 jLiftS := by
 refine fnOkF hmo G18a_ok (fn := Tryz.f93) (c := bodyOf' Tryz.f93) (by kernel_rfl) (by kernel_rfl) (by kernel_rfl) ?_
 intro xs bl p o hF hp
 unfold jLiftS at hF
 split at hF
 ·rename_i mm1 x mm2 y n
  obtain ⟨hg, hF⟩ := guard_some hF
  simp only [Bool.and_eq_true] at hg
  have hg0 := beqN hg.1
  have hg1 := beqN hg.2
  subst hg0; subst hg1
  injection hF with hF; injection hF with e1 e2; subst e1; subst e2
  refine ⟨Nat.le_of_ble_eq_true (by kernel_rfl), fun X hX hfa => ⟨[], 999, ?_⟩⟩
  refine kto (q := bif n then some (Out.mk (AV.c ((CV.nat two256 0).pr ((CV.nat two256 0).pr ((CV.nat two256 0).pr CV.nl)))) [] []) = some (Out.mk (AV.c (cv3 (jlF x y n))) [] []) else bif !formedF x y n then some (Out.mk (AV.c ((CV.nat two256 0).pr ((CV.nat two256 0).pr ((CV.nat two256 0).pr CV.nl)))) [] []) = some (Out.mk (AV.c (cv3 (jlF x y n))) [] []) else some (Out.mk (AV.c ((CV.nat two256 x).pr ((CV.nat two256 y).pr ((CV.nat two256 1).pr CV.nl)))) [] []) = some (Out.mk (AV.c (cv3 (jlF x y n))) [] [])) (by kernel_rfl) ?_
  refine cond_intro (fun h => ?_) (fun h => cond_intro (fun h2 => ?_) (fun h2 => ?_))
  ·subst h; simp [jlF, cv3]
  ·subst h; simp [formedF] at h2; simp [jlF, cv3, h2]
  ·subst h; simp [formedF] at h2; simp [jlF, cv3, h2]
 ·cases hF
noncomputable def jdF (t : T3) : PtN := bif Nat.beq t.2.2 0 then (0, 0, true) else (fmul 0 t.1 (fmul 0 (finv 0 t.2.2) (finv 0 t.2.2)), fmul 0 t.2.1 (fmul 0 (finv 0 t.2.2) (fmul 0 (finv 0 t.2.2) (finv 0 t.2.2))), false)
noncomputable def jDropS : FSpec := fun xs bl => match xs, bl with
 | [.c (.pr (.nat mm1 x) (.pr (.nat mm2 y) (.pr (.nat mm3 z) .nl)))], [] => bif Nat.beq mm1 two256 && Nat.beq mm2 two256 && Nat.beq mm3 two256 then some (none, ⟨.c (cvP (jdF (x, y, z))), [], []⟩) else none
 | _, _ => none
theorem jDrop_ok : FnOk CX 90 jDropS := by
 refine fnOkF hmo G18a_ok (fn := Tryz.f90) (c := bodyOf' Tryz.f90) (by kernel_rfl) (by kernel_rfl) (by kernel_rfl) ?_
 intro xs bl p o hF hp
 unfold jDropS at hF
 split at hF
 ·rename_i mm1 x mm2 y mm3 z
  obtain ⟨hg, hF⟩ := guard_some hF
  simp only [Bool.and_eq_true] at hg
  have hg0 := beqN hg.1.1
  have hg1 := beqN hg.1.2
  have hg2 := beqN hg.2
  subst hg0; subst hg1; subst hg2
  injection hF with hF; injection hF with e1 e2; subst e1; subst e2
  refine ⟨Nat.le_of_ble_eq_true (by kernel_rfl), fun X hX hfa => ⟨[], 999, ?_⟩⟩
  refine kto (q := bif z.beq 0 then some (Out.mk (AV.c ((CV.nat two256 0).pr ((CV.nat two256 0).pr ((CV.bool true).pr CV.nl)))) [] []) = some (Out.mk (AV.c (cvP (jdF (x, y, z)))) [] []) else kB 0 ∧ some (Out.mk (AV.c ((CV.nat two256 (fmul 0 x (fmul 0 (finv 0 z) (finv 0 z)))).pr ((CV.nat two256 (fmul 0 y (fmul 0 (finv 0 z) (fmul 0 (finv 0 z) (finv 0 z))))).pr ((CV.bool false).pr CV.nl)))) [] []) = some (Out.mk (AV.c (cvP (jdF (x, y, z)))) [] [])) (by kernel_rfl) ?_
  refine cond_intro (fun h => ?_) (fun h => ⟨kB0, ?_⟩)
  ·simp [jdF, h, cvP]
  ·simp [jdF, h, cvP]
 ·cases hF
theorem kT_of {n : Int} (h : (decide (0 ≤ n) && decide (n ≤ 100)) = true) : kT n := by simp at h; exact h
noncomputable def jdG (p : T3) : T3 :=
 let mul := fmul 0
 let sub := fsub 0
 let zz := mul p.2.2 p.2.2
 let yy := mul p.2.1 p.2.1
 let s := timesF (mul p.1 yy) 4
 let m := timesF (mul (sub p.1 zz) (fadd 0 p.1 zz)) 3
 let x := sub (mul m m) (timesF s 2)
 (x, sub (mul m (sub s x)) (timesF (mul yy yy) 8), timesF (mul p.2.1 p.2.2) 2)
noncomputable def jdbF (p : T3) : T3 := bif Nat.beq p.2.2 0 || Nat.beq p.2.1 0 then (0, 0, 0) else jdG p
noncomputable def jDoubleS : FSpec := fun xs bl => match xs, bl with
 | [.c (.pr (.nat mm1 x) (.pr (.nat mm2 y) (.pr (.nat mm3 z) .nl)))], [] => bif Nat.beq mm1 two256 && Nat.beq mm2 two256 && Nat.beq mm3 two256 then some (none, ⟨.c (cv3 (jdbF (x, y, z))), [], []⟩) else none
 | _, _ => none
theorem jDouble_ok : FnOk CX 112 jDoubleS := by
 refine fnOkF hmo G18a_ok (fn := Tryz.f112) (c := bodyOf' Tryz.f112) (by kernel_rfl) (by kernel_rfl) (by kernel_rfl) ?_
 intro xs bl p o hF hp
 unfold jDoubleS at hF
 split at hF
 ·rename_i mm1 x mm2 y mm3 z
  obtain ⟨hg, hF⟩ := guard_some hF
  simp only [Bool.and_eq_true] at hg
  have hg0 := beqN hg.1.1
  have hg1 := beqN hg.1.2
  have hg2 := beqN hg.2
  subst hg0; subst hg1; subst hg2
  injection hF with hF; injection hF with e1 e2; subst e1; subst e2
  refine ⟨Nat.le_of_ble_eq_true (by kernel_rfl), fun X hX hfa => ⟨[], 999, ?_⟩⟩
  refine kto (q := bif z.beq 0 then some (Out.mk (AV.c ((CV.nat two256 0).pr ((CV.nat two256 0).pr ((CV.nat two256 0).pr CV.nl)))) [] []) = some (Out.mk (AV.c (cv3 (jdbF (x, y, z)))) [] []) else bif y.beq 0 then some (Out.mk (AV.c ((CV.nat two256 0).pr ((CV.nat two256 0).pr ((CV.nat two256 0).pr CV.nl)))) [] []) = some (Out.mk (AV.c (cv3 (jdbF (x, y, z)))) [] []) else kT 4 ∧ kT 3 ∧ kT 2 ∧ kT 8 ∧ kT 2 ∧ some (Out.mk (AV.c ((CV.nat two256 (fsub 0 (fmul 0 (timesF (fmul 0 (fsub 0 x (fmul 0 z z)) (fadd 0 x (fmul 0 z z))) 3) (timesF (fmul 0 (fsub 0 x (fmul 0 z z)) (fadd 0 x (fmul 0 z z))) 3)) (timesF (timesF (fmul 0 x (fmul 0 y y)) 4) 2))).pr ((CV.nat two256 (fsub 0 (fmul 0 (timesF (fmul 0 (fsub 0 x (fmul 0 z z)) (fadd 0 x (fmul 0 z z))) 3) (fsub 0 (timesF (fmul 0 x (fmul 0 y y)) 4) (fsub 0 (fmul 0 (timesF (fmul 0 (fsub 0 x (fmul 0 z z)) (fadd 0 x (fmul 0 z z))) 3) (timesF (fmul 0 (fsub 0 x (fmul 0 z z)) (fadd 0 x (fmul 0 z z))) 3)) (timesF (timesF (fmul 0 x (fmul 0 y y)) 4) 2)))) (timesF (fmul 0 (fmul 0 y y) (fmul 0 y y)) 8))).pr ((CV.nat two256 (timesF (fmul 0 y z) 2)).pr CV.nl)))) [] []) = some (Out.mk (AV.c (cv3 (jdbF (x, y, z)))) [] [])) (by kernel_rfl) ?_
  refine cond_intro (fun h => ?_) (fun h => cond_intro (fun h2 => ?_) (fun h2 => ?_))
  ·simp [jdbF, h, cv3]
  ·simp [jdbF, h, h2, cv3]
  ·have e : jdbF (x, y, z) = jdG (x, y, z) := by simp [jdbF, h, h2]
   rw [e]
   exact ⟨kT_of (by decide), kT_of (by decide), kT_of (by decide), kT_of (by decide), kT_of (by decide), rfl⟩
 ·cases hF
noncomputable def G18b : Tab := (93, lift [true] jLiftS) :: (90, lift [true] jDropS) :: (112, lift [true] jDoubleS) :: G18a
theorem G18b_ok : TabOk CX G18b := .cons (lift_ok jLift_ok _) <| .cons (lift_ok jDrop_ok _) <| .cons (lift_ok jDouble_ok _) G18a_ok
noncomputable def jpG (p q : T3) : T3 :=
 let mul := fmul 0
 let sub := fsub 0
 let pz := mul p.2.2 p.2.2
 let qz := mul q.2.2 q.2.2
 let u := mul p.1 qz
 let v := mul q.1 pz
 let s := mul p.2.1 (mul q.2.2 qz)
 let t := mul q.2.1 (mul p.2.2 pz)
 let h := sub v u
 let r := sub t s
 let hh := mul h h
 let hhh := mul h hh
 let w := mul u hh
 let x := sub (sub (mul r r) hhh) (timesF w 2)
 (x, sub (mul r (sub w x)) (mul s hhh), mul h (mul p.2.2 q.2.2))
noncomputable def jplF (p q : T3) : T3 :=
 bif Nat.beq p.2.2 0 then q else bif Nat.beq q.2.2 0 then p else
 bif Nat.beq (fmul 0 p.1 (fmul 0 q.2.2 q.2.2)) (fmul 0 q.1 (fmul 0 p.2.2 p.2.2)) then
  (bif Nat.beq (fmul 0 p.2.1 (fmul 0 q.2.2 (fmul 0 q.2.2 q.2.2))) (fmul 0 q.2.1 (fmul 0 p.2.2 (fmul 0 p.2.2 p.2.2))) then jdbF p else (0, 0, 0))
 else jpG p q
noncomputable def jPlusS : FSpec := fun xs bl => match xs, bl with
 | [.c (.pr (.nat mm1 x) (.pr (.nat mm2 y) (.pr (.nat mm3 z) .nl))), .c (.pr (.nat mm4 u) (.pr (.nat mm5 v) (.pr (.nat mm6 w) .nl)))], [] => bif Nat.beq mm1 two256 && Nat.beq mm2 two256 && Nat.beq mm3 two256 && Nat.beq mm4 two256 && Nat.beq mm5 two256 && Nat.beq mm6 two256 then some (none, ⟨.c (cv3 (jplF (x, y, z) (u, v, w))), [], []⟩) else none
 | _, _ => none
theorem jPlus_ok : FnOk CX 91 jPlusS := by
 refine fnOkF hmo G18b_ok (fn := Tryz.f91) (c := bodyOf' Tryz.f91) (by kernel_rfl) (by kernel_rfl) (by kernel_rfl) ?_
 intro xs bl p o hF hp
 unfold jPlusS at hF
 split at hF
 ·rename_i mm1 x mm2 y mm3 z mm4 u mm5 v mm6 w
  obtain ⟨hg, hF⟩ := guard_some hF
  simp only [Bool.and_eq_true] at hg
  have hg0 := beqN hg.1.1.1.1.1
  have hg1 := beqN hg.1.1.1.1.2
  have hg2 := beqN hg.1.1.1.2
  have hg3 := beqN hg.1.1.2
  have hg4 := beqN hg.1.2
  have hg5 := beqN hg.2
  subst hg0; subst hg1; subst hg2; subst hg3; subst hg4; subst hg5
  injection hF with hF; injection hF with e1 e2; subst e1; subst e2
  refine ⟨Nat.le_of_ble_eq_true (by kernel_rfl), fun X hX hfa => ⟨[], 999, ?_⟩⟩
  exact kto (q := bif Nat.beq z 0 then some (Out.mk (.c (cv3 (u, v, w))) [] []) = some (Out.mk (.c (cv3 (jplF (x, y, z) (u, v, w)))) [] []) else bif Nat.beq w 0 then some (Out.mk (.c (cv3 (x, y, z))) [] []) = some (Out.mk (.c (cv3 (jplF (x, y, z) (u, v, w)))) [] []) else bif Nat.beq (fmul 0 x (fmul 0 w w)) (fmul 0 u (fmul 0 z z)) then (bif Nat.beq (fmul 0 y (fmul 0 w (fmul 0 w w))) (fmul 0 v (fmul 0 z (fmul 0 z z))) then some (Out.mk (.c (cv3 (jdbF (x, y, z)))) [] []) = some (Out.mk (.c (cv3 (jplF (x, y, z) (u, v, w)))) [] []) else some (Out.mk (.c (cv3 (0, 0, 0))) [] []) = some (Out.mk (.c (cv3 (jplF (x, y, z) (u, v, w)))) [] [])) else kT 2 ∧ some (Out.mk (.c (cv3 (jpG (x, y, z) (u, v, w)))) [] []) = some (Out.mk (.c (cv3 (jplF (x, y, z) (u, v, w)))) [] [])) (by kernel_rfl) (by
   refine cond_intro (fun h => ?_) (fun h => cond_intro (fun h2 => ?_) (fun h2 => cond_intro (fun h3 => cond_intro (fun h4 => ?_) (fun h4 => ?_)) (fun h3 => ⟨kT_of (by decide), ?_⟩)))
   ·simp [jplF, h]
   ·simp [jplF, h, h2]
   ·simp [jplF, h, h2, h3, h4]
   ·simp [jplF, h, h2, h3, h4]
   ·simp [jplF, h, h2, h3])
 ·cases hF
noncomputable def G18c : Tab := (91, lift [true, true] jPlusS) :: G18b
theorem G18c_ok : TabOk CX G18c := .cons (lift_ok jPlus_ok _) G18b_ok
noncomputable def mulJ (k : Nat) (p : T3) : Nat → T3
 | 0 => (0, 0, 0)
 | n + 1 => bif bitI k (255 - n : Nat) == 1 then jplF (jdbF (mulJ k p n)) p else jdbF (mulJ k p n)
def jB (t : T3) : Blk' := .cells 106 12 (.els [.c (cv3 t)])
noncomputable def muI (k : Nat) (p o : T3) (n : Nat) : St :=
 ⟨[(2, .ptr (.l 0) 0 4 0), (3, .ptr (.l 1) 0 12 0), (4, .ptr (.l 2) 0 12 0), (5, .ptr (.l 3) 0 12 0), (6, .c (.int .i64 ((255 : Int) - (n : Nat))))], [(0, natB k), (1, jB p), (2, jB (0, 0, 0)), (3, jB o)], 4, 21⟩
def muF (o : T3) : St := ⟨[(4, .ptr (.l 0) 0 12 0), (5, .ptr (.l 1) 0 12 0)], [(0, jB (0, 0, 0)), (1, jB o)], 2, 21⟩
theorem mul_l0 {X : Snap} (hX : ∀ b L, X.ι b = some L → b < 0) (k : Nat) (p : T3) : LOk CX X 0 (loopAt 0 Tryz.f92) (loopW 0 [] [2, 3, 4, 5, 6] (muI k p (0, 0, 0) 0) True false (muF (mulJ k p 256))) := by
 refine loopW_ok hmo G18c_ok (by kernel_rfl) hX [4, 5] [] (fun n => muI k p (mulJ k p n) n) (fun n => n ≤ 256) (fun n => 256 - n) 0 (fun _ => rfl) (fun _ => by omega) ?_
 intro hp n hn hfa
 refine ⟨[], 999, ?_⟩
 refine kto (q := bif decide (255 - (Nat.cast (R := Int) n) ≥ 0) then (0 ≤ 255 - (Nat.cast (R := Int) n) ∧ 255 - (Nat.cast (R := Int) n) ≤ 255) ∧ bif bitI k (255 - (Nat.cast (R := Int) n)) == 1 then ∃ (v' : Nat), some (St.mk [(2, AV.ptr (Base.l 0) 0 4 0), (3, AV.ptr (Base.l 1) 0 12 0), (4, AV.ptr (Base.l 2) 0 12 0), (5, AV.ptr (Base.l 3) 0 12 0), (6, AV.c (CV.int IntKind.i64 (IntKind.i64.wrap (255 - (Nat.cast (R := Int) n) - 1))))] [(0, Blk'.cells 27 4 (Body.els [AV.c (CV.nat two256 k)])), (1, Blk'.cells 106 12 (Body.els [AV.c ((CV.nat two256 p.fst).pr ((CV.nat two256 p.snd.fst).pr ((CV.nat two256 p.snd.snd).pr CV.nl)))])), (2, Blk'.cells 106 12 (Body.els [AV.c ((CV.nat two256 0).pr ((CV.nat two256 0).pr ((CV.nat two256 0).pr CV.nl)))])), (3, Blk'.cells 106 12 (Body.els [AV.c ((CV.nat two256 (jplF (jdbF (mulJ k p n)) p).fst).pr ((CV.nat two256 (jplF (jdbF (mulJ k p n)) p).snd.fst).pr ((CV.nat two256 (jplF (jdbF (mulJ k p n)) p).snd.snd).pr CV.nl)))]))] 4 21) = some (muI k p (mulJ k p v') v') ∧ 256 - v' < 256 - n ∧ v' ≤ 256 else ∃ (v' : Nat), some (St.mk [(2, AV.ptr (Base.l 0) 0 4 0), (3, AV.ptr (Base.l 1) 0 12 0), (4, AV.ptr (Base.l 2) 0 12 0), (5, AV.ptr (Base.l 3) 0 12 0), (6, AV.c (CV.int IntKind.i64 (IntKind.i64.wrap (255 - (Nat.cast (R := Int) n) - 1))))] [(0, Blk'.cells 27 4 (Body.els [AV.c (CV.nat two256 k)])), (1, Blk'.cells 106 12 (Body.els [AV.c ((CV.nat two256 p.fst).pr ((CV.nat two256 p.snd.fst).pr ((CV.nat two256 p.snd.snd).pr CV.nl)))])), (2, Blk'.cells 106 12 (Body.els [AV.c ((CV.nat two256 0).pr ((CV.nat two256 0).pr ((CV.nat two256 0).pr CV.nl)))])), (3, Blk'.cells 106 12 (Body.els [AV.c ((CV.nat two256 (jdbF (mulJ k p n)).fst).pr ((CV.nat two256 (jdbF (mulJ k p n)).snd.fst).pr ((CV.nat two256 (jdbF (mulJ k p n)).snd.snd).pr CV.nl)))]))] 4 21) = some (muI k p (mulJ k p v') v') ∧ 256 - v' < 256 - n ∧ v' ≤ 256 else false = false ∧ some (St.mk [(4, AV.ptr (Base.l 0) 0 12 0), (5, AV.ptr (Base.l 1) 0 12 0)] [(0, Blk'.cells 106 12 (Body.els [AV.c ((CV.nat two256 0).pr ((CV.nat two256 0).pr ((CV.nat two256 0).pr CV.nl)))])), (1, Blk'.cells 106 12 (Body.els [AV.c ((CV.nat two256 (mulJ k p n).fst).pr ((CV.nat two256 (mulJ k p n).snd.fst).pr ((CV.nat two256 (mulJ k p n).snd.snd).pr CV.nl)))]))] 2 21) = some (muF (mulJ k p 256))) (by kernel_rfl) ?_
 have hn : n ≤ 256 := hn
 obtain ⟨o, ho⟩ : ∃ o, o = mulJ k p n := ⟨_, rfl⟩
 have hs : mulJ k p (n + 1) = bif bitI k (255 - n : Nat) == 1 then jplF (jdbF (mulJ k p n)) p else jdbF (mulJ k p n) := rfl
 rw [← ho] at hs ⊢
 have e13 : (255 : Int) - (n : Int) - 1 = 255 - ((n + 1 : Nat) : Int) := by omega
 refine cond_intro (fun h => ?_) (fun h => ?_)
 ·simp at h
  have ei : ((255 - n : Nat) : Int) = 255 - (n : Int) := by omega
  rw [ei] at hs
  simp (disch := omega) only [wi]
  rw [e13]
  have hm : 256 - (n + 1) < 256 - n ∧ n + 1 ≤ 256 := by omega
  refine ⟨⟨by omega, by omega⟩, cond_intro (fun h1 => ?_) (fun h1 => ?_)⟩
  ·rw [h1] at hs; exact ⟨n + 1, by rw [hs]; rfl, hm⟩
  ·rw [h1] at hs; exact ⟨n + 1, by rw [hs]; rfl, hm⟩
 ·simp at h
  have e : n = 256 := by omega
  subst e
  rw [← ho]
  exact ⟨by simp, rfl⟩
noncomputable def jMultipleS : FSpec := fun xs bl => match xs, bl with
 | [.c (.nat mm1 k), .c (.pr (.nat mm2 x) (.pr (.nat mm3 y) (.pr (.nat mm4 z) .nl)))], [] => bif Nat.beq mm1 two256 && Nat.beq mm2 two256 && Nat.beq mm3 two256 && Nat.beq mm4 two256 then some (none, ⟨.c (cv3 (mulJ k (x, y, z) 256)), [], []⟩) else none
 | _, _ => none
theorem jMultiple_ok : FnOk CX 92 jMultipleS := by
 refine fnOkF hmo G18c_ok (fn := Tryz.f92) (c := bodyOf' Tryz.f92) (by kernel_rfl) (by kernel_rfl) (by kernel_rfl) ?_
 intro xs bl p o hF hp
 unfold jMultipleS at hF
 split at hF
 ·rename_i mm1 k mm2 x mm3 y mm4 z
  obtain ⟨hg, hF⟩ := guard_some hF
  simp only [Bool.and_eq_true] at hg
  have hg0 := beqN hg.1.1.1
  have hg1 := beqN hg.1.1.2
  have hg2 := beqN hg.1.2
  have hg3 := beqN hg.2
  subst hg0; subst hg1; subst hg2; subst hg3
  injection hF with hF; injection hF with e1 e2; subst e1; subst e2
  refine ⟨Nat.le_of_ble_eq_true (by kernel_rfl), fun X hX hfa => ⟨[(0, loopW 0 [] [2, 3, 4, 5, 6] (muI k (x, y, z) (0, 0, 0) 0) True false (muF (mulJ k (x, y, z) 256)))], 999, ?_⟩⟩
  refine kto (q := LOk CX X 0 (loopAt 0 Tryz.f92) (loopW 0 [] [2, 3, 4, 5, 6] (muI k (x, y, z) (0, 0, 0) 0) True false (muF (mulJ k (x, y, z) 256))) ∧ some (St.mk [(2, AV.ptr (Base.l 0) 0 4 0), (3, AV.ptr (Base.l 1) 0 12 0), (4, AV.ptr (Base.l 2) 0 12 0), (5, AV.ptr (Base.l 3) 0 12 0), (6, AV.c (CV.int IntKind.i64 255))] [(0, Blk'.cells 27 4 (Body.els [AV.c (CV.nat two256 k)])), (1, Blk'.cells 106 12 (Body.els [AV.c ((CV.nat two256 x).pr ((CV.nat two256 y).pr ((CV.nat two256 z).pr CV.nl)))])), (2, Blk'.cells 106 12 (Body.els [AV.c ((CV.nat two256 0).pr ((CV.nat two256 0).pr ((CV.nat two256 0).pr CV.nl)))])), (3, Blk'.cells 106 12 (Body.els [AV.c ((CV.nat two256 0).pr ((CV.nat two256 0).pr ((CV.nat two256 0).pr CV.nl)))]))] 4 21) = some (muI k (x, y, z) (0, 0, 0) 0) ∧ True ∧ some (Out.mk (AV.c ((CV.nat two256 (mulJ k (x, y, z) 256).fst).pr ((CV.nat two256 (mulJ k (x, y, z) 256).snd.fst).pr ((CV.nat two256 (mulJ k (x, y, z) 256).snd.snd).pr CV.nl)))) [] []) = some (Out.mk (AV.c (cv3 (mulJ k (x, y, z) 256))) [] [])) (by kernel_rfl) ?_
  exact ⟨mul_l0 hX _ _, by kernel_rfl, trivial, by kernel_rfl⟩
 ·cases hF
noncomputable def G18d : Tab := (92, lift [true, true] jMultipleS) :: G18c
theorem G18d_ok : TabOk CX G18d := .cons (lift_ok jMultiple_ok _) G18c_ok
noncomputable def jMulP (k : Nat) (p : PtN) : PtN := jdF (mulJ k (jlF p.1 p.2.1 p.2.2) 256)
noncomputable def jBothP (u : Nat) (p : PtN) (v : Nat) (q : PtN) : PtN := jdF (jplF (mulJ u (jlF p.1 p.2.1 p.2.2) 256) (mulJ v (jlF q.1 q.2.1 q.2.2) 256))
noncomputable def jMulS : FSpec := fun xs bl => match xs, bl with
 | [.c (.nat mm1 k), .c (.pr (.nat mm2 x) (.pr (.nat mm3 y) (.pr (.bool n) .nl)))], [] => bif Nat.beq mm1 two256 && Nat.beq mm2 two256 && Nat.beq mm3 two256 then some (none, ⟨.c (cvP (jMulP k (x, y, n))), [], []⟩) else none
 | _, _ => none
theorem jMul_ok : FnOk CX 66 jMulS := by
 refine fnOkF hmo G18d_ok (fn := Tryz.f66) (c := bodyOf' Tryz.f66) (by kernel_rfl) (by kernel_rfl) (by kernel_rfl) ?_
 intro xs bl p o hF hp
 unfold jMulS at hF
 split at hF
 ·rename_i mm1 k mm2 x mm3 y n
  obtain ⟨hg, hF⟩ := guard_some hF
  simp only [Bool.and_eq_true] at hg
  have hg0 := beqN hg.1.1
  have hg1 := beqN hg.1.2
  have hg2 := beqN hg.2
  subst hg0; subst hg1; subst hg2
  injection hF with hF; injection hF with e1 e2; subst e1; subst e2
  refine ⟨Nat.le_of_ble_eq_true (by kernel_rfl), fun X hX hfa => ⟨[], 999, ?_⟩⟩
  refine kto (q := some (Out.mk (AV.c ((CV.nat two256 (jdF (mulJ k (jlF x y n) 256)).fst).pr ((CV.nat two256 (jdF (mulJ k (jlF x y n) 256)).snd.fst).pr ((CV.bool (jdF (mulJ k (jlF x y n) 256)).snd.snd).pr CV.nl)))) [] []) = some (Out.mk (AV.c (cvP (jMulP k (x, y, n)))) [] [])) (by kernel_rfl) ?_
  rfl
 ·cases hF
noncomputable def jBothS : FSpec := fun xs bl => match xs, bl with
 | [.c (.nat mm1 u), .c (.pr (.nat mm2 x) (.pr (.nat mm3 y) (.pr (.bool n) .nl))), .c (.nat mm4 v), .c (.pr (.nat mm5 x2) (.pr (.nat mm6 y2) (.pr (.bool n2) .nl)))], [] => bif Nat.beq mm1 two256 && Nat.beq mm2 two256 && Nat.beq mm3 two256 && Nat.beq mm4 two256 && Nat.beq mm5 two256 && Nat.beq mm6 two256 then some (none, ⟨.c (cvP (jBothP u (x, y, n) v (x2, y2, n2))), [], []⟩) else none
 | _, _ => none
theorem jBoth_ok : FnOk CX 57 jBothS := by
 refine fnOkF hmo G18d_ok (fn := Tryz.f57) (c := bodyOf' Tryz.f57) (by kernel_rfl) (by kernel_rfl) (by kernel_rfl) ?_
 intro xs bl p o hF hp
 unfold jBothS at hF
 split at hF
 ·rename_i mm1 u mm2 x mm3 y n mm4 v mm5 x2 mm6 y2 n2
  obtain ⟨hg, hF⟩ := guard_some hF
  simp only [Bool.and_eq_true] at hg
  have hg0 := beqN hg.1.1.1.1.1
  have hg1 := beqN hg.1.1.1.1.2
  have hg2 := beqN hg.1.1.1.2
  have hg3 := beqN hg.1.1.2
  have hg4 := beqN hg.1.2
  have hg5 := beqN hg.2
  subst hg0; subst hg1; subst hg2; subst hg3; subst hg4; subst hg5
  injection hF with hF; injection hF with e1 e2; subst e1; subst e2
  refine ⟨Nat.le_of_ble_eq_true (by kernel_rfl), fun X hX hfa => ⟨[], 999, ?_⟩⟩
  refine kto (q := some (Out.mk (AV.c ((CV.nat two256 (jdF (jplF (mulJ u (jlF x y n) 256) (mulJ v (jlF x2 y2 n2) 256))).fst).pr ((CV.nat two256 (jdF (jplF (mulJ u (jlF x y n) 256) (mulJ v (jlF x2 y2 n2) 256))).snd.fst).pr ((CV.bool (jdF (jplF (mulJ u (jlF x y n) 256) (mulJ v (jlF x2 y2 n2) 256))).snd.snd).pr CV.nl)))) [] []) = some (Out.mk (AV.c (cvP (jBothP u (x, y, n) v (x2, y2, n2)))) [] [])) (by kernel_rfl) ?_
  rfl
 ·cases hF
end Go.Proofs.YtdcganigfihkjaaGreatDoor
/- The reference's points by three numbers are the group's: its multiples are the program's. -/
namespace Go.Proofs.YtdcganigfihkjaaGreatDoor
open Go Go.Ab Go.RowKit Go.Chr
set_option maxRecDepth 100000
def Lt3 (t : T3) : Prop := t.1 < ChEC.PP ∧ t.2.1 < ChEC.PP ∧ t.2.2 < ChEC.PP
theorem lt3_zero : Lt3 (0, 0, 0) := ⟨PP_pos, PP_pos, PP_pos⟩
theorem ph_t2 (x : Nat) : (ChEC.ph (timesF x 2) : FP) = 2 * ChEC.ph x := by
 show (ChEC.ph (fadd 0 (fadd 0 0 x) x) : FP) = _
 rw [ph_fadd, ph_fadd, ChEC.ph_zero]; grind
theorem ph_t3 (x : Nat) : (ChEC.ph (timesF x 3) : FP) = 3 * ChEC.ph x := by
 show (ChEC.ph (fadd 0 (timesF x 2) x) : FP) = _
 rw [ph_fadd, ph_t2]; grind
theorem ph_t4 (x : Nat) : (ChEC.ph (timesF x 4) : FP) = 4 * ChEC.ph x := by
 show (ChEC.ph (fadd 0 (timesF x 3) x) : FP) = _
 rw [ph_fadd, ph_t3]; grind
theorem ph_t8 (x : Nat) : (ChEC.ph (timesF x 8) : FP) = 8 * ChEC.ph x := by
 show (ChEC.ph (fadd 0 (fadd 0 (fadd 0 (fadd 0 (timesF x 4) x) x) x) x) : FP) = _
 rw [ph_fadd, ph_fadd, ph_fadd, ph_fadd, ph_t4]; grind
theorem ph_is0 {x : Nat} (h : x < ChEC.PP) : (ChEC.ph x : FP) = 0 ↔ Nat.beq x 0 = true := by
 constructor
 ·intro e
  have := ChEC.ph_inj h PP_pos (e.trans ChEC.ph_zero.symm)
  subst this; rfl
 ·intro e; rw [Nat.eq_of_beq_eq_true e]; rfl
theorem ph_same {x y : Nat} (hx : x < ChEC.PP) (hy : y < ChEC.PP) : (ChEC.ph x : FP) = ChEC.ph y ↔ Nat.beq x y = true := by
 constructor
 ·intro e; rw [ChEC.ph_inj hx hy e]; exact Nat.beq_refl _
 ·intro e; rw [Nat.eq_of_beq_eq_true e]
theorem lt_jdG (p : T3) : Lt3 (jdG p) := ⟨fsub_lt _ _, fsub_lt _ _, fadd_lt _ _⟩
theorem lt_jdb (p : T3) : Lt3 (jdbF p) := by
 unfold jdbF
 cases Nat.beq p.2.2 0 || Nat.beq p.2.1 0 with
 | true => exact lt3_zero
 | false => exact lt_jdG p
theorem ph_jdG (p : T3) : ph3 (jdG p) =
    (let q := ph3 p
     let zz := q.z * q.z
     let yy := q.y * q.y
     let s := 4 * (q.x * yy)
     let m := 3 * ((q.x - zz) * (q.x + zz))
     let x := m * m - 2 * s
     let y := m * (s - x) - 8 * (yy * yy)
     ⟨x, y, 2 * (q.y * q.z)⟩ : ChEC.T3 FP) := by
  simp only [jdG, ph3, ph_fadd, ph_fmul, ph_fsub, ph_t2, ph_t3, ph_t4, ph_t8]
theorem ph_jdb {p : T3} (h : Lt3 p) : ph3 (jdbF p) = ChEC.jdouble (ph3 p) := by
 unfold jdbF ChEC.jdouble
 have hz := ph_is0 h.2.2
 have hy := ph_is0 h.2.1
 cases e1 : Nat.beq p.2.2 0 with
 | true =>
  rw [e1] at hz
  have hz : (ph3 p).z = 0 := hz.2 rfl
  rw [if_pos (.inl hz)]; rfl
 | false =>
  rw [e1] at hz
  have hz : ¬ (ph3 p).z = 0 := fun h => by have := hz.1 h; cases this
  cases e2 : Nat.beq p.2.1 0 with
  | true =>
   rw [e2] at hy
   have hy : (ph3 p).y = 0 := hy.2 rfl
   rw [if_pos (.inr hy)]; rfl
  | false =>
   rw [e2] at hy
   have hy : ¬ (ph3 p).y = 0 := fun h => by have := hy.1 h; cases this
   rw [if_neg (fun h => h.elim hz hy)]
   exact ph_jdG p
theorem lt_jpG (p q : T3) : Lt3 (jpG p q) := ⟨fsub_lt _ _, fsub_lt _ _, fmul_lt _ _⟩
theorem lt_jpl {p q : T3} (hp : Lt3 p) (hq : Lt3 q) : Lt3 (jplF p q) := by
 unfold jplF
 cases Nat.beq p.2.2 0 with
 | true => exact hq
 | false =>
  cases Nat.beq q.2.2 0 with
  | true => exact hp
  | false =>
   cases Nat.beq (fmul 0 p.1 (fmul 0 q.2.2 q.2.2)) (fmul 0 q.1 (fmul 0 p.2.2 p.2.2)) with
   | false => exact lt_jpG p q
   | true =>
    cases Nat.beq (fmul 0 p.2.1 (fmul 0 q.2.2 (fmul 0 q.2.2 q.2.2))) (fmul 0 q.2.1 (fmul 0 p.2.2 (fmul 0 p.2.2 p.2.2))) with
    | true => exact lt_jdb p
    | false => exact lt3_zero
theorem ph_jpG (p q : T3) : ph3 (jpG p q) =
    (let p := ph3 p
     let q := ph3 q
     let pz := p.z * p.z
     let qz := q.z * q.z
     let u := p.x * qz
     let v := q.x * pz
     let s := p.y * (q.z * qz)
     let t := q.y * (p.z * pz)
     let h := v - u
     let r := t - s
     let hh := h * h
     let hhh := h * hh
     let w := u * hh
     let x := (r * r - hhh) - 2 * w
     let y := r * (w - x) - s * hhh
     ⟨x, y, h * (p.z * q.z)⟩ : ChEC.T3 FP) := by
  simp only [jpG, ph3, ph_fmul, ph_fsub, ph_t2]
theorem ph_jpl {p q : T3} (hp : Lt3 p) (hq : Lt3 q) : ph3 (jplF p q) = ChEC.jplus (ph3 p) (ph3 q) := by
 unfold jplF ChEC.jplus
 have h1 := ph_is0 hp.2.2
 have h2 := ph_is0 hq.2.2
 have h3 := ph_same (fmul_lt p.1 (fmul 0 q.2.2 q.2.2)) (fmul_lt q.1 (fmul 0 p.2.2 p.2.2))
 have h4 := ph_same (fmul_lt p.2.1 (fmul 0 q.2.2 (fmul 0 q.2.2 q.2.2))) (fmul_lt q.2.1 (fmul 0 p.2.2 (fmul 0 p.2.2 p.2.2)))
 simp only [ph_fmul] at h3 h4
 cases e1 : Nat.beq p.2.2 0 with
 | true => rw [e1] at h1; rw [if_pos (show (ph3 p).z = 0 from h1.2 rfl)]; rfl
 | false =>
  rw [e1] at h1
  rw [if_neg (show ¬ (ph3 p).z = 0 from fun h => by have := h1.1 h; cases this)]
  cases e2 : Nat.beq q.2.2 0 with
  | true => rw [e2] at h2; rw [if_pos (show (ph3 q).z = 0 from h2.2 rfl)]; rfl
  | false =>
   rw [e2] at h2
   rw [if_neg (show ¬ (ph3 q).z = 0 from fun h => by have := h2.1 h; cases this)]
   cases e3 : Nat.beq (fmul 0 p.1 (fmul 0 q.2.2 q.2.2)) (fmul 0 q.1 (fmul 0 p.2.2 p.2.2)) with
   | false =>
    rw [e3] at h3
    refine (ph_jpG p q).trans ?_
    exact (if_neg (show ¬ (ph3 p).x * ((ph3 q).z * (ph3 q).z) = (ph3 q).x * ((ph3 p).z * (ph3 p).z) from fun h => by have := h3.1 h; cases this)).symm
   | true =>
    rw [e3] at h3
    refine Eq.trans ?_ (if_pos (show (ph3 p).x * ((ph3 q).z * (ph3 q).z) = (ph3 q).x * ((ph3 p).z * (ph3 p).z) from h3.2 rfl)).symm
    cases e4 : Nat.beq (fmul 0 p.2.1 (fmul 0 q.2.2 (fmul 0 q.2.2 q.2.2))) (fmul 0 q.2.1 (fmul 0 p.2.2 (fmul 0 p.2.2 p.2.2))) with
    | true =>
     rw [e4] at h4
     exact (ph_jdb hp).trans (if_pos (show (ph3 p).y * ((ph3 q).z * ((ph3 q).z * (ph3 q).z)) = (ph3 q).y * ((ph3 p).z * ((ph3 p).z * (ph3 p).z)) from h4.2 rfl)).symm
    | false =>
     rw [e4] at h4
     exact (if_neg (show ¬ (ph3 p).y * ((ph3 q).z * ((ph3 q).z * (ph3 q).z)) = (ph3 q).y * ((ph3 p).z * ((ph3 p).z * (ph3 p).z)) from fun h => by have := h4.1 h; cases this)).symm
theorem mul_jr {P : PtF} {p : T3} (hp : ChEC.Jr (ph3 p) P) (hl : Lt3 p) (hP : On P) {k : Nat} (hk : k < 2 ^ 256) :
  ∀ n, n ≤ 256 → ChEC.Jr (ph3 (mulJ k p n)) (ChEC.smul (k / 2 ^ (256 - n)) P) ∧ Lt3 (mulJ k p n) := by
 intro n
 induction n with
 | zero =>
  intro _
  rw [Nat.sub_zero, Nat.div_eq_of_lt hk]
  exact ⟨rfl, lt3_zero⟩
 | succ n ih =>
  intro hn
  obtain ⟨ih, il⟩ := ih (by omega)
  obtain ⟨i, hi⟩ : ∃ i, i = 255 - n := ⟨_, rfl⟩
  have e1 : 256 - n = i + 1 := by omega
  have e2 : 256 - (n + 1) = i := by omega
  rw [e1] at ih
  rw [e2]
  have hs : mulJ k p (n + 1) = bif bitI k (255 - n : Nat) == 1 then jplF (jdbF (mulJ k p n)) p else jdbF (mulJ k p n) := rfl
  rw [← hi, bitI_eq] at hs
  have hM := ChEC.on_smul ChEC.goodP hP (k / 2 ^ (i + 1))
  have hd := ChEC.jr_double ChEC.goodP ih hM
  rw [← ph_jdb il, ← ChEC.smul_add ChEC.goodP hP] at hd
  have hMM := ChEC.on_smul ChEC.goodP hP (k / 2 ^ (i + 1) + k / 2 ^ (i + 1))
  have hb := pow_split k i
  have ht : ((i : Nat) : Int).toNat = i := Int.toNat_natCast i
  rw [ht] at hs
  rcases Nat.mod_two_eq_zero_or_one (k / 2 ^ i) with h1 | h1
  ·rw [h1] at hs hb
   have hs : mulJ k p (n + 1) = jdbF (mulJ k p n) := hs
   rw [hs, hb, Nat.add_zero, Nat.two_mul]
   exact ⟨hd, lt_jdb _⟩
  ·rw [h1] at hs hb
   have hs : mulJ k p (n + 1) = jplF (jdbF (mulJ k p n)) p := hs
   rw [hs, hb, Nat.two_mul, ChEC.smul_add ChEC.goodP hP, ChEC.smul_one, ph_jpl (lt_jdb _) hl]
   exact ⟨ChEC.jr_plus ChEC.goodP hd hp hMM hP, lt_jpl (lt_jdb _) hl⟩
theorem jdrop_pt {t : T3} {P : PtF} (h : ChEC.Jr (ph3 t) P) (hl : Lt3 t) : jdF t = ptN P := by
 have hz := ph_is0 hl.2.2
 unfold jdF
 cases P with
 | O =>
  have h0 : (ChEC.ph t.2.2 : FP) = 0 := h
  rw [hz.1 h0]; rfl
 | A x y =>
  obtain ⟨h1, h2, h3⟩ := h
  have h1 : (ChEC.ph t.2.2 : FP) ≠ 0 := h1
  have h2 : (ChEC.ph t.1 : FP) = x * (ChEC.ph t.2.2 * ChEC.ph t.2.2) := h2
  have h3 : (ChEC.ph t.2.1 : FP) = y * (ChEC.ph t.2.2 * (ChEC.ph t.2.2 * ChEC.ph t.2.2)) := h3
  have hz0 : Nat.beq t.2.2 0 = false := by
   cases hb : Nat.beq t.2.2 0 with
   | false => rfl
   | true => exact absurd (hz.2 hb) h1
  have hi := ChEC.Dom.inv _ h1
  have ex : fmul 0 t.1 (fmul 0 (finv 0 t.2.2) (finv 0 t.2.2)) = x.val := ph_is (fmul_lt _ _) (by
   rw [ph_fmul, ph_fmul, ph_finv, h2]
   generalize (ChEC.ph t.2.2 : FP) = z at hi ⊢
   generalize ChEC.fi z = j at hi ⊢
   grind)
  have ey : fmul 0 t.2.1 (fmul 0 (finv 0 t.2.2) (fmul 0 (finv 0 t.2.2) (finv 0 t.2.2))) = y.val := ph_is (fmul_lt _ _) (by
   rw [ph_fmul, ph_fmul, ph_fmul, ph_finv, h3]
   generalize (ChEC.ph t.2.2 : FP) = z at hi ⊢
   generalize ChEC.fi z = j at hi ⊢
   grind)
  rw [hz0, ex, ey]; rfl
theorem jlift_jr {t : PtN} (h : Formed t) : ChEC.Jr (ph3 (jlF t.1 t.2.1 t.2.2)) (ptP t) ∧ Lt3 (jlF t.1 t.2.1 t.2.2) := by
 rcases h with rfl | ⟨h1, h2⟩
 ·exact ⟨rfl, lt3_zero⟩
 ·obtain ⟨x, y, n⟩ := t
  have h1 : n = false := h1
  subst h1
  have h2 : onF x y = true := h2
  have e : jlF x y false = (x, y, 1) := by simp [jlF, h2]
  show ChEC.Jr (ph3 (jlF x y false)) (.A (ChEC.ph x) (ChEC.ph y)) ∧ Lt3 (jlF x y false)
  rw [e]
  obtain ⟨l1, l2⟩ := onF_lt h2
  refine ⟨⟨?_, ?_, ?_⟩, l1, l2, Nat.le_of_ble_eq_true (by kernel_rfl)⟩
  ·show (1 : FP) ≠ 0
   intro h
   have := congrArg Fin.val h
   have e1 : (1 : FP).val = 1 := by kernel_rfl
   have e0 : (0 : FP).val = 0 := by kernel_rfl
   rw [e1, e0] at this; cases this
  ·show (ChEC.ph x : FP) = ChEC.ph x * (1 * 1)
   grind
  ·show (ChEC.ph y : FP) = ChEC.ph y * (1 * (1 * 1))
   grind
theorem jMul_eq {k : Nat} {p : PtN} (hk : k < 2 ^ 256) (hp : Formed p) : jMulP k p = bothP k p 0 p := by
 rw [both_pt hk (Nat.two_pow_pos _) hp hp]
 obtain ⟨h1, h2⟩ := jlift_jr hp
 obtain ⟨h3, h4⟩ := mul_jr h1 h2 (on_ptP hp) hk 256 (Nat.le_refl _)
 have := jdrop_pt h3 h4
 rw [Nat.sub_self, Nat.pow_zero, Nat.div_one] at this
 show _ = ptN (ChEC.padd _ .O)
 rw [ChEC.padd_O]
 exact this
theorem jBoth_eq {u v : Nat} {p q : PtN} (hu : u < 2 ^ 256) (hv : v < 2 ^ 256) (hp : Formed p) (hq : Formed q) : jBothP u p v q = bothP u p v q := by
 rw [both_pt hu hv hp hq]
 obtain ⟨h1, h2⟩ := jlift_jr hp
 obtain ⟨k1, k2⟩ := jlift_jr hq
 obtain ⟨h3, h4⟩ := mul_jr h1 h2 (on_ptP hp) hu 256 (Nat.le_refl _)
 obtain ⟨k3, k4⟩ := mul_jr k1 k2 (on_ptP hq) hv 256 (Nat.le_refl _)
 rw [Nat.sub_self, Nat.pow_zero, Nat.div_one] at h3 k3
 have hj := ChEC.jr_plus ChEC.goodP h3 k3 (ChEC.on_smul ChEC.goodP (on_ptP hp) _) (ChEC.on_smul ChEC.goodP (on_ptP hq) _)
 rw [← ph_jpl h4 k4] at hj
 exact jdrop_pt hj (lt_jpl h4 k4)
end Go.Proofs.YtdcganigfihkjaaGreatDoor
/- The reference ref11. -/
namespace Go.Proofs.YtdcganigfihkjaaGreatDoor
open Go Go.Ab Go.RowKit Go.Chr
set_option maxRecDepth 100000
noncomputable def G19a : Tab := (66, lift [true, true] jMulS) :: (57, lift [true, true, true, true] jBothS) :: G18d
theorem G19a_ok : TabOk CX G19a := .cons (lift_ok jMul_ok _) <| .cons (lift_ok jBoth_ok _) G18d_ok
noncomputable def rWithinS : FSpec := fun xs bl => match xs, bl with
 | [.c (.nat mm1 a)], [] => bif Nat.beq mm1 two256 then some (none, ⟨.c (.bool (withinF a)), [], []⟩) else none
 | _, _ => none
theorem rWithin_ok : FnOk CX 30 rWithinS := by
 refine fnOkF hmo G19a_ok (fn := Tryz.f30) (c := bodyOf' Tryz.f30) (by kernel_rfl) (by kernel_rfl) (by kernel_rfl) ?_
 intro xs bl p o hF hp
 unfold rWithinS at hF
 split at hF
 ·rename_i mm1 a
  obtain ⟨hg, hF⟩ := guard_some hF
  have hg0 := beqN hg
  subst hg0
  injection hF with hF; injection hF with e1 e2; subst e1; subst e2
  refine ⟨Nat.le_of_ble_eq_true (by kernel_rfl), fun X hX hfa => ⟨[], 999, ?_⟩⟩
  refine kto (q := bif !a.beq 0 then kB 1 ∧ some (Out.mk (AV.c (CV.bool (fbelow 1 a))) [] []) = some (Out.mk (AV.c (CV.bool (withinF a))) [] []) else some (Out.mk (AV.c (CV.bool false)) [] []) = some (Out.mk (AV.c (CV.bool (withinF a))) [] [])) (by kernel_rfl) ?_
  refine cond_intro (fun h => ⟨kB1, ?_⟩) (fun h => ?_)
  ·simp at h; simp [withinF, h]
  ·simp at h; simp [withinF, h]
 ·cases hF
noncomputable def rZS : FSpec := fun xs bl => match xs, bl with
 | [.c (.ints .u8 m)], [] => some (some (m.length ≤ 1000000), ⟨.c (.nat two256 (numF m)), [], []⟩)
 | _, _ => none
theorem rZ_ok : FnOk CX 58 rZS := by
 refine fnOkF hmo G19a_ok (fn := Tryz.f58) (c := bodyOf' Tryz.f58) (by kernel_rfl) (by kernel_rfl) (by kernel_rfl) ?_
 intro xs bl p o hF hp
 unfold rZS at hF
 split at hF
 ·rename_i m
  injection hF with hF; injection hF with e1 e2; subst e1; subst e2
  have hp : m.length ≤ 1000000 := hp
  refine ⟨Nat.le_of_ble_eq_true (by kernel_rfl), fun X hX hfa => ⟨[], 999, ?_⟩⟩
  refine kto (q := m.length ≤ 1000000000 ∧ 32 = 32 ∧ some (Out.mk (AV.c (CV.nat two256 (beW (shaF shaK shaH m)))) [] []) = some (Out.mk (AV.c (CV.nat two256 (numF m))) [] [])) (by kernel_rfl) ?_
  exact ⟨by omega, rfl, rfl⟩
 ·cases hF
noncomputable def G19b : Tab := (30, lift [true] rWithinS) :: (58, lift [true] rZS) :: G19a
theorem G19b_ok : TabOk CX G19b := .cons (lift_ok rWithin_ok _) <| .cons (lift_ok rZ_ok _) G19a_ok
noncomputable def rSeedS : FSpec := fun xs bl => match xs, bl with
 | [.c (.nat mm1 d), .c (.ints .u8 m)], [] => bif Nat.beq mm1 two256 then some (some (m.length ≤ 1000000), ⟨.own 0 1 (seedF d m).length, [], [byB (seedF d m)]⟩) else none
 | _, _ => none
theorem rSeed_ok : FnOk CX 65 rSeedS := by
 refine fnOkF hmo G19b_ok (fn := Tryz.f65) (c := bodyOf' Tryz.f65) (by kernel_rfl) (by kernel_rfl) (by kernel_rfl) ?_
 intro xs bl p o hF hp
 unfold rSeedS at hF
 split at hF
 ·rename_i mm1 d m
  obtain ⟨hg, hF⟩ := guard_some hF
  have hg0 := beqN hg
  subst hg0
  injection hF with hF; injection hF with e1 e2; subst e1; subst e2
  have hp : m.length ≤ 1000000 := hp
  refine ⟨Nat.le_of_ble_eq_true (by kernel_rfl), fun X hX hfa => ⟨[], 999, ?_⟩⟩
  refine kto (q := m.length ≤ 1000000 ∧ kB 1 ∧ some (Out.mk (AV.own 0 1 64) [] [Blk'.cells 5 1 (Body.ints IntKind.u8 (beL d ++ beL (ffold 1 (numF m))))]) = some (Out.mk (AV.own 0 1 (seedF d m).length) [] [byB (seedF d m)])) (by kernel_rfl) ?_
  exact ⟨hp, kB1, by kernel_rfl⟩
 ·cases hF
noncomputable def G19c : Tab := (65, lift [true, true] rSeedS) :: G19b
theorem G19c_ok : TabOk CX G19c := .cons (lift_ok rSeed_ok _) G19b_ok
theorem numL_at (K V : List Int) {n i : Nat} (h : i < n) : (numL K V n).getD i [] = (stN K V (i + 1)).2 := by
 unfold numL
 rw [List.getD_eq_getElem?_getD, List.getElem?_map, List.getElem?_range h]; rfl
noncomputable def rnI (K V : List Int) (n i : Nat) : St :=
 ⟨[(7, .own 0 4 (nonN K V i).length), (8, .own 1 32 (List.length (α := List Int) (numL K V n))), (9, .c (.int .i64 (i : Nat)))], [(0, natsB (nonN K V i)), (1, hsR (numL K V n))], 2, 38⟩
def rnF (l : List Nat) : St := ⟨[(7, .own 0 4 l.length)], [(0, natsB l)], 1, 38⟩
theorem rnonces_l0 {X : Snap} (hX : ∀ b L, X.ι b = some L → b < 0) (K V : List Int) (n : Nat) : LOk CX X 0 (loopAt 0 Tryz.f31) (loopW 0 [.slot 7 natsZ] [7, 8, 9] (rnI K V n 0) (n ≤ 1000) false (rnF (nonN K V n))) := by
 refine loopW_ok hmo G19c_ok (by kernel_rfl) hX [7] [] (rnI K V n) (fun i => i ≤ n) (fun i => n - i) 0 (fun _ => rfl) (fun _ => by omega) ?_
 intro hp i hi hfa
 refine ⟨[], 999, ?_⟩
 refine kto (q := bif decide ((Nat.cast (R := Int) i) < (Nat.cast (R := Int) (numL K V n).length)) then bif decide ((Nat.cast (R := Int) i) < (Nat.cast (R := Int) (numL K V n).length)) then List.length ((numL K V n).getD (Nat.cast (R := Int) i).toNat []) = 32 ∧ bif withinF (beW ((numL K V n).getD (Nat.cast (R := Int) i).toNat [])) then bif (((Body.rows (Tag.nat two256) (nonN K V i)).len + 1) * 32).ble 140737488355328 && ((Body.rows (Tag.nat two256) (nonN K V i)).len + 1).ble 4611686018427387904 then ∃ (v' : Nat), some (St.mk [(7, AV.own 0 4 (Body.rows (Tag.nat two256) (nonN K V i ++ [beW ((numL K V n).getD (Nat.cast (R := Int) i).toNat [])])).len), (8, AV.own 1 32 (numL K V n).length), (9, AV.c (CV.int IntKind.i64 (IntKind.i64.wrap ((Nat.cast (R := Int) i) + 1))))] [(0, Blk'.cells 27 4 (Body.rows (Tag.nat two256) (nonN K V i ++ [beW ((numL K V n).getD (Nat.cast (R := Int) i).toNat [])]))), (1, Blk'.cells 82 32 (Body.rows (Tag.arr IntKind.u8 32) (numL K V n)))] 2 38) = some (rnI K V n v') ∧ n - v' < n - i ∧ v' ≤ n else False else ∃ (v' : Nat), some (St.mk [(7, AV.own 0 4 (nonN K V i).length), (8, AV.own 1 32 (numL K V n).length), (9, AV.c (CV.int IntKind.i64 (IntKind.i64.wrap ((Nat.cast (R := Int) i) + 1))))] [(0, Blk'.cells 27 4 (Body.rows (Tag.nat two256) (nonN K V i))), (1, Blk'.cells 82 32 (Body.rows (Tag.arr IntKind.u8 32) (numL K V n)))] 2 38) = some (rnI K V n v') ∧ n - v' < n - i ∧ v' ≤ n else False else false = false ∧ some (St.mk [(7, AV.own 0 4 (nonN K V i).length)] [(0, Blk'.cells 27 4 (Body.rows (Tag.nat two256) (nonN K V i)))] 1 38) = some (rnF (nonN K V n))) (by kernel_rfl) ?_
 have hi : i ≤ n := hi
 have hl := nonN_len K V i
 have ln := numL_len K V n
 rw [ln]
 simp (disch := omega) only [wi, Int.toNat_natCast]
 refine cond_intro (fun h => cond_at h ?_) (fun h => ?_)
 ·simp at h
  have hm : n - (i + 1) < n - i ∧ i + 1 ≤ n := by omega
  have eg : (numL K V n).getD i [] = (stN K V (i + 1)).2 := numL_at K V h
  have lv : (stN K V (i + 1)).2.length = 32 := by rw [stN_succ]; exact macF_len _ _ _ _
  rw [eg]
  refine ⟨lv, cond_intro (fun h1 => ?_) (fun h1 => ?_)⟩
  ·refine cond_at ?_ ⟨i + 1, ?_, hm⟩
   ·have e : (Body.rows (Tag.nat two256) (nonN K V i)).len = (nonN K V i).length := rfl
    rw [e]
    simp only [Bool.and_eq_true, Nat.ble_eq]; omega
   ·rw [stN_succ] at h1; unfold rnI; rw [nonN_yes h1, stN_succ, ln]; rfl
  ·exact ⟨i + 1, by rw [stN_succ] at h1; unfold rnI; rw [nonN_no h1, ln]; rfl, hm⟩
 ·simp at h
  have e : i = n := by omega
  subst e
  exact ⟨by simp, rfl⟩
def kN (n : Int) : Prop := 0 ≤ n ∧ n ≤ 1000
noncomputable def nonR (d : Nat) (m : List Int) (n : Int) : List Nat := shut (nonN (nwK (seedF d m)) (nwV (seedF d m)) n.toNat)
theorem nonR_eq (d : Nat) (m : List Int) (n : Int) : nonR d m n = nonN (nwK (seedF d m)) (nwV (seedF d m)) n.toNat := shut_eq _
theorem nonR_8 (d : Nat) (m : List Int) : nonR d m 8 = noncesF d m := by rw [nonR_eq, noncesF_eq]; rfl
noncomputable def rNoncesS : FSpec := fun xs bl => match xs, bl with
 | [.c (.nat mm1 d), .c (.ints .u8 m), .c (.int .i64 n)], [] => bif Nat.beq mm1 two256 then some (some (m.length ≤ 1000000 ∧ kN n), ⟨.own 0 4 (nonR d m n).length, [], [natsB (nonR d m n)]⟩) else none
 | _, _ => none
theorem rNonces_ok : FnOk CX 31 rNoncesS := by
 refine fnOkF hmo G19c_ok (fn := Tryz.f31) (c := bodyOf' Tryz.f31) (by kernel_rfl) (by kernel_rfl) (by kernel_rfl) ?_
 intro xs bl p o hF hp
 unfold rNoncesS at hF
 split at hF
 ·rename_i mm1 d m n
  obtain ⟨hg, hF⟩ := guard_some hF
  have hg0 := beqN hg
  subst hg0
  injection hF with hF; injection hF with e1 e2; subst e1; subst e2
  have hp : m.length ≤ 1000000 ∧ 0 ≤ n ∧ n ≤ 1000 := hp
  refine ⟨Nat.le_of_ble_eq_true (by kernel_rfl), fun X hX hfa => ⟨[(0, loopW 0 [.slot 7 natsZ] [7, 8, 9] (rnI (nwK (seedF d m)) (nwV (seedF d m)) n.toNat 0) (n.toNat ≤ 1000) false (rnF (nonN (nwK (seedF d m)) (nwV (seedF d m)) n.toNat)))], 999, ?_⟩⟩
  refine kto (q := m.length ≤ 1000000 ∧ (64 ≤ 1000000 ∧ 0 ≤ n ∧ n ≤ 1000) ∧ LOk CX X 0 (loopAt 0 Tryz.f31) (loopW 0 [Path.slot 7 natsZ] [7, 8, 9] (rnI (nwK (seedF d m)) (nwV (seedF d m)) n.toNat 0) (n.toNat ≤ 1000) false (rnF (nonN (nwK (seedF d m)) (nwV (seedF d m)) n.toNat))) ∧ some (St.mk [(7, AV.own 0 4 0), (8, AV.own 1 32 (numL (nwK (seedF d m)) (nwV (seedF d m)) n.toNat).length), (9, AV.c (CV.int IntKind.i64 0))] [(0, Blk'.cells 27 4 (Body.rows (Tag.nat two256) [])), (1, Blk'.cells 82 32 (Body.rows (Tag.arr IntKind.u8 32) (numL (nwK (seedF d m)) (nwV (seedF d m)) n.toNat)))] 2 38) = some (rnI (nwK (seedF d m)) (nwV (seedF d m)) n.toNat 0) ∧ n.toNat ≤ 1000 ∧ some (Out.mk (AV.own 0 4 (nonN (nwK (seedF d m)) (nwV (seedF d m)) n.toNat).length) [] [Blk'.cells 27 4 (Body.rows (Tag.nat two256) (nonN (nwK (seedF d m)) (nwV (seedF d m)) n.toNat))]) = some (Out.mk (AV.own 0 4 (nonR d m n).length) [] [natsB (nonR d m n)])) (by kernel_rfl) ?_
  rw [nonR_eq]
  exact ⟨hp.1, ⟨by omega, hp.2⟩, rnonces_l0 hX _ _ _, by kernel_rfl, by omega, rfl⟩
 ·cases hF
noncomputable def rSignedS : FSpec := fun xs bl => match xs, bl with
 | [.c (.nat mm1 d), .c (.nat mm2 k), .c (.ints .u8 m)], [] => bif Nat.beq mm1 two256 && Nat.beq mm2 two256 then some (some (m.length ≤ 1000000), ⟨.t2 (.c (.nat two256 (sigR k))) (.c (.nat two256 (sigS d (numF m) k))), [], []⟩) else none
 | _, _ => none
theorem rSigned_ok : FnOk CX 32 rSignedS := by
 refine fnOkF hmo G19c_ok (fn := Tryz.f32) (c := bodyOf' Tryz.f32) (by kernel_rfl) (by kernel_rfl) (by kernel_rfl) ?_
 intro xs bl p o hF hp
 unfold rSignedS at hF
 split at hF
 ·rename_i mm1 d mm2 k m
  obtain ⟨hg, hF⟩ := guard_some hF
  simp only [Bool.and_eq_true] at hg
  have hg0 := beqN hg.1
  have hg1 := beqN hg.2
  subst hg0; subst hg1
  injection hF with hF; injection hF with e1 e2; subst e1; subst e2
  have hp : m.length ≤ 1000000 := hp
  refine ⟨Nat.le_of_ble_eq_true (by kernel_rfl), fun X hX hfa => ⟨[], 999, ?_⟩⟩
  have hk : k < two256 := (hfa.sl 1 _ rfl).1.1
  refine kto (q := kB 1 ∧ m.length ≤ 1000000 ∧ kB 1 ∧ kB 1 ∧ kB 1 ∧ kB 1 ∧ some (Out.mk ((AV.c (CV.nat two256 (ffold 1 (jMulP k (gX, 36134250956749795798585127919587881956611106672985015071877198253568414405109, false)).fst))).t2 (AV.c (CV.nat two256 (fmul 1 (fadd 1 (numF m) (fmul 1 (ffold 1 (jMulP k (gX, 36134250956749795798585127919587881956611106672985015071877198253568414405109, false)).fst) d)) (finv 1 k))))) [] []) = some (Out.mk ((AV.c (CV.nat two256 (sigR k))).t2 (AV.c (CV.nat two256 (sigS d (numF m) k)))) [] [])) (by kernel_rfl) ?_
  have e : jMulP k (gX, gY, false) = bothP k gPt 0 gPt := jMul_eq (by rw [← two_256]; exact hk) formedG
  rw [show (36134250956749795798585127919587881956611106672985015071877198253568414405109 : Nat) = gY from rfl, e]
  exact ⟨kB1, hp, kB1, kB1, kB1, kB1, rfl⟩
 ·cases hF
noncomputable def rightT (q : PtN) (m : List Int) (r s : Nat) : Bool := bif q.2.2 then false else bif !formedF q.1 q.2.1 q.2.2 then false else bif !withinF r then false else bif !withinF s then false else rightF q (numF m) r s
noncomputable def rRightS : FSpec := fun xs bl => match xs, bl with
 | [.c (.pr (.nat mm1 x) (.pr (.nat mm2 y) (.pr (.bool n) .nl))), .c (.ints .u8 m), .c (.nat mm3 r), .c (.nat mm4 s)], [] => bif Nat.beq mm1 two256 && Nat.beq mm2 two256 && Nat.beq mm3 two256 && Nat.beq mm4 two256 then some (some (m.length ≤ 1000000), ⟨.c (.bool (rightT (x, y, n) m r s)), [], []⟩) else none
 | _, _ => none
theorem rRight_ok : FnOk CX 25 rRightS := by
 refine fnOkF hmo G19c_ok (fn := Tryz.f25) (c := bodyOf' Tryz.f25) (by kernel_rfl) (by kernel_rfl) (by kernel_rfl) ?_
 intro xs bl p o hF hp
 unfold rRightS at hF
 split at hF
 ·rename_i mm1 x mm2 y n m mm3 r mm4 s
  obtain ⟨hg, hF⟩ := guard_some hF
  simp only [Bool.and_eq_true] at hg
  have hg0 := beqN hg.1.1.1
  have hg1 := beqN hg.1.1.2
  have hg2 := beqN hg.1.2
  have hg3 := beqN hg.2
  subst hg0; subst hg1; subst hg2; subst hg3
  injection hF with hF; injection hF with e1 e2; subst e1; subst e2
  have hp : m.length ≤ 1000000 := hp
  refine ⟨Nat.le_of_ble_eq_true (by kernel_rfl), fun X hX hfa => ⟨[], 999, ?_⟩⟩
  refine kto (q := bif n then some (Out.mk (AV.c (CV.bool false)) [] []) = some (Out.mk (AV.c (CV.bool (rightT (x, y, n) m r s))) [] []) else bif !formedF x y n then some (Out.mk (AV.c (CV.bool false)) [] []) = some (Out.mk (AV.c (CV.bool (rightT (x, y, n) m r s))) [] []) else bif !withinF r then some (Out.mk (AV.c (CV.bool false)) [] []) = some (Out.mk (AV.c (CV.bool (rightT (x, y, n) m r s))) [] []) else bif !withinF s then some (Out.mk (AV.c (CV.bool false)) [] []) = some (Out.mk (AV.c (CV.bool (rightT (x, y, n) m r s))) [] []) else kB 1 ∧ m.length ≤ 1000000 ∧ kB 1 ∧ kB 1 ∧ bif !(jBothP (fmul 1 (numF m) (finv 1 s)) (gX, 36134250956749795798585127919587881956611106672985015071877198253568414405109, false) (fmul 1 r (finv 1 s)) (x, y, n)).snd.snd then kB 1 ∧ some (Out.mk (AV.c (CV.bool ((ffold 1 (jBothP (fmul 1 (numF m) (finv 1 s)) (gX, 36134250956749795798585127919587881956611106672985015071877198253568414405109, false) (fmul 1 r (finv 1 s)) (x, y, n)).fst).beq r))) [] []) = some (Out.mk (AV.c (CV.bool (rightT (x, y, n) m r s))) [] []) else some (Out.mk (AV.c (CV.bool false)) [] []) = some (Out.mk (AV.c (CV.bool (rightT (x, y, n) m r s))) [] [])) (by kernel_rfl) ?_
  rw [show (36134250956749795798585127919587881956611106672985015071877198253568414405109 : Nat) = gY from rfl]
  refine cond_intro (fun h => ?_) (fun h => cond_intro (fun h1 => ?_) (fun h1 => cond_intro (fun h2 => ?_) (fun h2 => cond_intro (fun h3 => ?_) (fun h3 => ?_))))
  ·simp [rightT, h]
  ·subst h; simp at h1; simp [rightT, h1]
  ·subst h; simp at h1 h2; simp [rightT, h1, h2]
  ·subst h; simp at h1 h2 h3; simp [rightT, h1, h2, h3]
  ·simp at h1 h2 h3
   subst h
   have hf : Formed (x, y, false) := .inr ⟨rfl, by simpa [formedF] using h1⟩
   have e : jBothP (fmul 1 (numF m) (finv 1 s)) (gX, gY, false) (fmul 1 r (finv 1 s)) (x, y, false) = bothP (fmul 1 (numF m) (finv 1 s)) gPt (fmul 1 r (finv 1 s)) (x, y, false) :=
    jBoth_eq (Nat.lt_trans (fmul1_lt _ _) NN_256) (Nat.lt_trans (fmul1_lt _ _) NN_256) formedG hf
   have hr : rightT (x, y, false) m r s = rightF (x, y, false) (numF m) r s := by simp [rightT, h1, h2, h3]
   rw [e, hr]
   unfold rightF
   refine ⟨kB1, hp, kB1, kB1, cond_intro (fun h6 => ⟨kB1, ?_⟩) (fun h6 => ?_)⟩
   ·simp only [Bool.not_eq_true'] at h6; dsimp only; rw [h6]; rfl
   ·simp only [Bool.not_eq_false'] at h6; dsimp only; rw [h6]; rfl
 ·cases hF
theorem decF_formed {l : List Int} (h : (decF l).2 = true) : Formed (decF l).1 := by
 unfold decF at h ⊢
 cases h1 : (l.length == 1 && l.getD 0 0 == 0) with
 | true => exact .inl rfl
 | false =>
  rw [h1] at h
  cases h2 : ((l.length == 65 && l.getD 0 0 == 4) && onF (beW ((l.drop 1).take 32)) (beW (l.drop 33))) with
  | true =>
   simp only [Bool.and_eq_true] at h2
   exact .inr ⟨rfl, h2.2⟩
  | false => rw [h2] at h; cases h
theorem right_ver {pub m sig : List Int} (h1 : (derDe sig).2.2 = true) (h2 : (decF pub).2 = true) : rightT (decF pub).1 m (derDe sig).1 (derDe sig).2.1 = verF pub m sig := by
 unfold verF
 rw [h1, h2]
 rcases decF_formed h2 with e | ⟨e1, e2⟩
 ·rw [e]; rfl
 ·unfold rightT formedF
  rw [e1, e2]; rfl
noncomputable def G19d : Tab := (31, lift [true, true, true] rNoncesS) :: (32, lift [true, true, true] rSignedS) :: (25, lift [true, true, true, true] rRightS) :: (23, flatC derDecodeS) :: (24, lift [true] rDecodeS) :: G19c
theorem G19d_ok : TabOk CX G19d := .cons (lift_ok rNonces_ok _) <| .cons (lift_ok rSigned_ok _) <| .cons (lift_ok rRight_ok _) <| .cons (flatC_ok refDecode_c) <| .cons (lift_ok rDecode_ok _) G19c_ok
noncomputable def rVerifyS : FSpec := fun xs bl => match xs, bl with
 | [.c (.ints .u8 pub), .c (.ints .u8 m), .c (.ints .u8 sig)], [] => some (some (m.length ≤ 1000000 ∧ sig.length ≤ 1000), ⟨.c (.bool (verF pub m sig)), [], []⟩)
 | _, _ => none
theorem rVerify_ok : FnOk CX 7 rVerifyS := by
 refine fnOkF hmo G19d_ok (fn := Tryz.f7) (c := bodyOf' Tryz.f7) (by kernel_rfl) (by kernel_rfl) (by kernel_rfl) ?_
 intro xs bl p o hF hp
 unfold rVerifyS at hF
 split at hF
 ·rename_i pub m sig
  injection hF with hF; injection hF with e1 e2; subst e1; subst e2
  have hp : m.length ≤ 1000000 ∧ sig.length ≤ 1000 := hp
  refine ⟨Nat.le_of_ble_eq_true (by kernel_rfl), fun X hX hfa => ⟨[], 999, ?_⟩⟩
  refine kto (q := sig.length ≤ 1000 ∧ bif (derDe sig).snd.snd then bif (decF pub).snd then m.length ≤ 1000000 ∧ some (Out.mk (AV.c (CV.bool (rightT (decF pub).fst m (derDe sig).fst (derDe sig).snd.fst))) [] []) = some (Out.mk (AV.c (CV.bool (verF pub m sig))) [] []) else some (Out.mk (AV.c (CV.bool false)) [] []) = some (Out.mk (AV.c (CV.bool (verF pub m sig))) [] []) else some (Out.mk (AV.c (CV.bool false)) [] []) = some (Out.mk (AV.c (CV.bool (verF pub m sig))) [] [])) (by kernel_rfl) ?_
  refine ⟨hp.2, cond_intro (fun h1 => cond_intro (fun h2 => ⟨hp.1, ?_⟩) (fun h2 => ?_)) (fun h1 => ?_)⟩
  ·rw [right_ver h1 h2]
  ·unfold verF; rw [h1, h2]; rfl
  ·unfold verF; rw [h1]; rfl
 ·cases hF
noncomputable def rsI (d : Nat) (m : List Int) (l : List Nat) (i : Nat) : St :=
 ⟨[(1, .c (.ints .u8 m)), (2, .ptr (.l 0) 0 4 0), (6, .own 1 4 l.length), (7, .c (.int .i64 (i : Nat)))], [(0, natB d), (1, natsB l)], 2, 43⟩
def rsR (s : List Int) : St := ⟨[(4, .own 0 1 s.length), (5, .c (.bool true))], [(0, byB s)], 1, 43⟩
def rsF : St := ⟨[], [], 0, 43⟩
theorem rsign_l0 {X : Snap} (hX : ∀ b L, X.ι b = some L → b < 0) (d : Nat) (m : List Int) (l : List Nat) : LOk CX X 0 (loopAt 0 Tryz.f9) (loopR 0 [] [1, 2, 6, 7] (rsI d m l 0) (l.length ≤ 8 ∧ m.length ≤ 1000000) (sigAt d (numF m) l).isSome rsF (rsR (sigL d (numF m) l))) := by
 refine loopR_ok hmo G19d_ok (by kernel_rfl) hX [] [] [4, 5] (rsI d m l) (fun i => i ≤ l.length ∧ ∀ j k, j < i → l[j]? = some k → sigOk d (numF m) k = false) (fun i => l.length - i) 0 (fun _ => rfl) (fun _ => ⟨by omega, fun j k h => by omega⟩) ?_
 intro hp i hi hfa
 refine ⟨[], 999, ?_⟩
 refine kto (q := bif decide ((Nat.cast (R := Int) i) < (Nat.cast (R := Int) l.length)) then bif decide ((Nat.cast (R := Int) i) < (Nat.cast (R := Int) l.length)) then m.length ≤ 1000000 ∧ bif !(sigR (l.getD (Nat.cast (R := Int) i).toNat 0)).beq 0 then bif !(sigS d (numF m) (l.getD (Nat.cast (R := Int) i).toNat 0)).beq 0 then (sigAt d (numF m) l).isSome = true ∧ some (St.mk [(4, AV.own 0 1 (derEn (sigR (l.getD (Nat.cast (R := Int) i).toNat 0)) (sigS d (numF m) (l.getD (Nat.cast (R := Int) i).toNat 0))).length), (5, AV.c (CV.bool true))] [(0, Blk'.cells 5 1 (Body.ints IntKind.u8 (derEn (sigR (l.getD (Nat.cast (R := Int) i).toNat 0)) (sigS d (numF m) (l.getD (Nat.cast (R := Int) i).toNat 0)))))] 1 43) = some (rsR (sigL d (numF m) l)) else ∃ (v' : Nat), some (St.mk [(1, AV.c (CV.ints IntKind.u8 m)), (2, AV.ptr (Base.l 0) 0 4 0), (6, AV.own 1 4 l.length), (7, AV.c (CV.int IntKind.i64 (IntKind.i64.wrap ((Nat.cast (R := Int) i) + 1))))] [(0, Blk'.cells 27 4 (Body.els [AV.c (CV.nat two256 d)])), (1, Blk'.cells 27 4 (Body.rows (Tag.nat two256) l))] 2 43) = some (rsI d m l v') ∧ l.length - v' < l.length - i ∧ v' ≤ l.length ∧ ∀ (j k : Nat), j < v' → l[j]? = some k → sigOk d (numF m) k = false else ∃ (v' : Nat), some (St.mk [(1, AV.c (CV.ints IntKind.u8 m)), (2, AV.ptr (Base.l 0) 0 4 0), (6, AV.own 1 4 l.length), (7, AV.c (CV.int IntKind.i64 (IntKind.i64.wrap ((Nat.cast (R := Int) i) + 1))))] [(0, Blk'.cells 27 4 (Body.els [AV.c (CV.nat two256 d)])), (1, Blk'.cells 27 4 (Body.rows (Tag.nat two256) l))] 2 43) = some (rsI d m l v') ∧ l.length - v' < l.length - i ∧ v' ≤ l.length ∧ ∀ (j k : Nat), j < v' → l[j]? = some k → sigOk d (numF m) k = false else False else (sigAt d (numF m) l).isSome = false ∧ some (St.mk [] [] 0 43) = some rsF) (by kernel_rfl) ?_
 have hi : i ≤ l.length ∧ ∀ j k, j < i → l[j]? = some k → sigOk d (numF m) k = false := hi
 obtain ⟨hi, hno⟩ := hi
 obtain ⟨hp, hm0⟩ : l.length ≤ 8 ∧ m.length ≤ 1000000 := hp
 simp (disch := omega) only [wi, Int.toNat_natCast]
 refine cond_intro (fun h => cond_at h ?_) (fun h => ?_)
 ·simp at h
  have eg : l.getD i 0 = l[i] := by rw [List.getD_eq_getElem?_getD, List.getElem?_eq_getElem h]; rfl
  have ei : l[i]? = some l[i] := List.getElem?_eq_getElem h
  rw [eg]
  generalize hc : l[i] = c at ei ⊢
  have hm : l.length - (i + 1) < l.length - i ∧ i + 1 ≤ l.length := by omega
  have next : sigOk d (numF m) c = false → i + 1 ≤ l.length ∧ ∀ j k, j < i + 1 → l[j]? = some k → sigOk d (numF m) k = false := by
   intro hf
   refine ⟨hm.2, fun j k hj hk => ?_⟩
   by_cases hji : j = i
   ·subst hji; rw [ei] at hk; injection hk with hk; subst hk; exact hf
   ·exact hno j k (by omega) hk
  have okd : sigOk d (numF m) c = (!Nat.beq (sigR c) 0 && !Nat.beq (sigS d (numF m) c) 0) := rfl
  refine ⟨hm0, cond_intro (fun h1 => ?_) (fun h1 => ?_)⟩
  ·refine cond_intro (fun h2 => ?_) (fun h2 => ?_)
   ·have ea : sigAt d (numF m) l = some c := sig_first h ei (by rw [okd, h1, h2]; rfl) hno
    refine ⟨by rw [ea]; rfl, ?_⟩
    unfold sigL; rw [ea]; rfl
   ·exact ⟨i + 1, rfl, hm.1, next (by rw [okd, h1, h2]; rfl)⟩
  ·exact ⟨i + 1, rfl, hm.1, next (by rw [okd, h1]; rfl)⟩
 ·simp at h
  have e : i = l.length := by omega
  subst e
  refine ⟨?_, rfl⟩
  have ea : sigAt d (numF m) l = none := by
   unfold sigAt
   rw [List.find?_eq_none]
   intro k hk
   obtain ⟨j, hj, hk⟩ := List.getElem_of_mem hk
   rw [hno j k hj (by rw [← hk]; exact List.getElem?_eq_getElem hj)]
   simp
  rw [ea]; rfl
noncomputable def rSignS : FSpec := fun xs bl => match xs, bl with
 | [.c (.nat mm1 d), .c (.ints .u8 m)], [] => bif Nat.beq mm1 two256 then some (some (m.length ≤ 1000000), ⟨.t2 (.own 0 1 (signF d m).length) (.c (.bool (signB d m))), [], [byB (signF d m)]⟩) else none
 | _, _ => none
theorem rSign_ok : FnOk CX 9 rSignS := by
 refine fnOkR [.slot 4 bytesZ] hmo G19d_ok (fn := Tryz.f9) (c := bodyOf' Tryz.f9) (by kernel_rfl) (by kernel_rfl) (by kernel_rfl) ?_
 intro xs bl p o hF hp
 unfold rSignS at hF
 split at hF
 ·rename_i mm1 d m
  obtain ⟨hg, hF⟩ := guard_some hF
  have hg0 := beqN hg
  subst hg0
  injection hF with hF; injection hF with e1 e2; subst e1; subst e2
  have hp : m.length ≤ 1000000 := hp
  refine ⟨Nat.le_of_ble_eq_true (by kernel_rfl), fun X hX hfa => ⟨[(0, loopR 0 [] [1, 2, 6, 7] (rsI d m (nonR d m 8) 0) ((nonR d m 8).length ≤ 8 ∧ m.length ≤ 1000000) (sigAt d (numF m) (nonR d m 8)).isSome rsF (rsR (sigL d (numF m) (nonR d m 8))))], 999, ?_⟩⟩
  refine kto (q := bif !withinF d then some (Out.mk ((AV.own 0 1 0).t2 (AV.c (CV.bool false))) [] [Blk'.cells 5 1 (Body.ints IntKind.u8 [])]) = some (Out.mk ((AV.own 0 1 (signF d m).length).t2 (AV.c (CV.bool (signB d m)))) [] [byB (signF d m)]) else (m.length ≤ 1000000 ∧ kN 8) ∧ LOk CX X 0 (loopAt 0 Tryz.f9) (loopR 0 [] [1, 2, 6, 7] (rsI d m (nonR d m 8) 0) ((nonR d m 8).length ≤ 8 ∧ m.length ≤ 1000000) (sigAt d (numF m) (nonR d m 8)).isSome rsF (rsR (sigL d (numF m) (nonR d m 8)))) ∧ some (St.mk [(1, AV.c (CV.ints IntKind.u8 m)), (2, AV.ptr (Base.l 0) 0 4 0), (6, AV.own 1 4 (nonR d m 8).length), (7, AV.c (CV.int IntKind.i64 0))] [(0, Blk'.cells 27 4 (Body.els [AV.c (CV.nat two256 d)])), (1, Blk'.cells 27 4 (Body.rows (Tag.nat two256) (nonR d m 8)))] 2 43) = some (rsI d m (nonR d m 8) 0) ∧ ((nonR d m 8).length ≤ 8 ∧ m.length ≤ 1000000) ∧ bif (sigAt d (numF m) (nonR d m 8)).isSome then some (Out.mk ((AV.own 0 1 (sigL d (numF m) (nonR d m 8)).length).t2 (AV.c (CV.bool true))) [] [Blk'.cells 5 1 (Body.ints IntKind.u8 (sigL d (numF m) (nonR d m 8)))]) = some (Out.mk ((AV.own 0 1 (signF d m).length).t2 (AV.c (CV.bool (signB d m)))) [] [byB (signF d m)]) else some (Out.mk ((AV.own 0 1 0).t2 (AV.c (CV.bool false))) [] [Blk'.cells 5 1 (Body.ints IntKind.u8 [])]) = some (Out.mk ((AV.own 0 1 (signF d m).length).t2 (AV.c (CV.bool (signB d m)))) [] [byB (signF d m)])) (by kernel_rfl) ?_
  rw [nonR_8]
  refine cond_intro (fun h => ?_) (fun h => ?_)
  ·simp at h; simp [signF, signB, h, byB]
  ·simp at h
   refine ⟨⟨hp, by unfold kN; omega⟩, rsign_l0 hX _ _ _, by kernel_rfl, ⟨by rw [noncesF_eq]; exact nonN_len _ _ 8, hp⟩, ?_⟩
   refine cond_intro (fun h1 => ?_) (fun h1 => ?_)
   ·simp [signF, signB, h, h1, byB]
   ·have e : sigL d (numF m) (noncesF d m) = [] := by
     unfold sigL
     cases ha : sigAt d (numF m) (noncesF d m) with
     | none => rfl
     | some k => rw [ha] at h1; cases h1
    simp [signF, signB, h, h1, e, byB]
 ·cases hF
noncomputable def G19 : Tab := (7, lift [true, true, true] rVerifyS) :: (9, lift [true, true] rSignS) :: (5, lift [] awakeS) :: G19d
theorem G19_ok : TabOk CX G19 := .cons (lift_ok rVerify_ok _) <| .cons (lift_ok rSign_ok _) <| .cons (lift_ok awake_ok _) G19d_ok
theorem ver_signed {d : Nat} {m : List Int} (h : signB d m = true) : verF (pubF d) m (signF d m) = true := by
 obtain ⟨hd, k, hk, ok, e⟩ := signed h
 obtain ⟨g1, g2, g3, g4, g5⟩ := sig_right hk ok
 rw [e, ver_of hd g1 g2, g4]
noncomputable def signsS : FSpec := fun xs bl => match xs, bl with
 | [.c (.nat mm1 d), .c (.ints .u8 m)], [] => bif Nat.beq mm1 two256 then some (none, ⟨.c (.bool true), [], []⟩) else none
 | _, _ => none
theorem signs_ok : FnOk CX 4 signsS := by
 refine fnOkF hmo G19_ok (fn := Tryz.f4) (c := bodyOf' Tryz.f4) (by kernel_rfl) (by kernel_rfl) (by kernel_rfl) ?_
 intro xs bl p o hF hp
 unfold signsS at hF
 split at hF
 ·rename_i mm1 d m
  obtain ⟨hg, hF⟩ := guard_some hF
  have hg0 := beqN hg
  subst hg0
  injection hF with hF; injection hF with e1 e2; subst e1; subst e2
  refine ⟨Nat.le_of_ble_eq_true (by kernel_rfl), fun X hX hfa => ⟨[], 999, ?_⟩⟩
  refine kto (q := bif decide ((Nat.cast (R := Int) m.length) > 300) then some (Out.mk (AV.c (CV.bool true)) [] []) = some (Out.mk (AV.c (CV.bool true)) [] []) else m.length ≤ 2000000 ∧ m.length ≤ 1000000 ∧ bif signB d m == signB d m then ((signF d m).length ≤ 1000000000 ∧ (signF d m).length ≤ 1000000000) ∧ bif sameB (signF d m) (signF d m) then bif !signB d m then some (Out.mk (AV.c (CV.bool true)) [] []) = some (Out.mk (AV.c (CV.bool true)) [] []) else (m.length ≤ 2000000 ∧ (signF d m).length ≤ 1000) ∧ some (Out.mk (AV.c (CV.bool (verF (pubF d) m (signF d m)))) [] []) = some (Out.mk (AV.c (CV.bool true)) [] []) else False else False) (by kernel_rfl) ?_
  refine cond_intro (fun _ => rfl) (fun h1 => ?_)
  simp at h1
  have hs := signF_len d m
  refine ⟨by omega, by omega, cond_at (by simp) ⟨⟨by omega, by omega⟩, cond_at (by rw [sameB_eq]; simp) (cond_intro (fun _ => rfl) (fun h2 => ⟨⟨by omega, by omega⟩, ?_⟩))⟩⟩
  rw [ver_signed (by simpa using h2)]
 ·cases hF
end Go.Proofs.YtdcganigfihkjaaGreatDoor
/- What comes in, opened: an array of four words, a slice of bytes. -/
namespace Go.Proofs.YtdcganigfihkjaaGreatDoor
open Go.ChangeShapes Go.WideShapes Go.ChangeAt Go.RowKit Go.Chr Go.Joins
theorem own : ownKnob Tryz.prog.godebug = none := by kernel_rfl
theorem laidOut : laidOutB Tryz.prog = true := by kernel_rfl
theorem cellsNat : Tryz.prog.cellsOf 27 = 4 := by kernel_rfl
theorem cells64 : Tryz.prog.cellsOf 25 = 1 := by kernel_rfl
theorem okWide_array {P : Program} {w : World} {r : Reach} {b0 t e : TypeId} {n : Nat} {v : Value} (ht : P.underlying t = some (.array n e)) (hv : Value.okWide P w r b0 t v) : ∃ cs, v = .agg cs ∧ cs.size = P.cellsOf t ∧ Row.okWide P w r b0 t cs := by
 unfold Value.okWide at hv; rw [ht] at hv; exact hv
set_option maxRecDepth 100000 in
theorem open_nat {H : Type} {enc : TypeId × Value → H} {w : World} {r : Reach} {b0 base : Nat} {sp : Nat → Bool} {held : Bool} {v : Value} {d : DataW H} {p : List MemPlace}
  (hv : Value.okWide Tryz.prog w r b0 27 v) (h : DataW.Trod enc Tryz.prog w base sp held 27 v d p) :
  ∃ x0 x1 x2 x3 : Int, v = .agg #[.int .u64 x0, .int .u64 x1, .int .u64 x2, .int .u64 x3] ∧ ∀ x ∈ [x0, x1, x2, x3], 0 ≤ x ∧ x < 2 ^ 64 := by
 obtain ⟨cs, rfl, hsz, _⟩ := okWide_array Tryz.underlying27 hv
 rw [cellsNat] at hsz
 obtain ⟨c0, c1, c2, c3, rfl⟩ := array4 hsz
 obtain ⟨fuel, hf⟩ := h
 obtain ⟨y0, y1, y2, y3, m, -, hy0, hy1, hy2, hy3⟩ := trod_array4 Tryz.underlying27 cells64 hf
 obtain ⟨x0, e0, -, w0⟩ := DataW.trod_int Tryz.underlying25 hy0
 obtain ⟨x1, e1, -, w1⟩ := DataW.trod_int Tryz.underlying25 hy1
 obtain ⟨x2, e2, -, w2⟩ := DataW.trod_int Tryz.underlying25 hy2
 obtain ⟨x3, e3, -, w3⟩ := DataW.trod_int Tryz.underlying25 hy3
 simp at e0 e1 e2 e3
 subst e0 e1 e2 e3
 refine ⟨x0, x1, x2, x3, rfl, fun x hx => ?_⟩
 have b0 := bounds_u64 w0
 have b1 := bounds_u64 w1
 have b2 := bounds_u64 w2
 have b3 := bounds_u64 w3
 simp only [List.mem_cons, List.not_mem_nil, or_false] at hx
 rcases hx with rfl | rfl | rfl | rfl <;> omega
theorem open_bytes {H : Type} {enc : TypeId × Value → H} {w : World} {fuel base : Nat} {sp : Nat → Bool} {held : Bool} {a : Option Addr} {len cap : Nat} {y : DataW H × List MemPlace}
  (h : DataW.trod enc Tryz.prog w base sp held fuel 22 [.slice a len cap] = some y) :
  ∃ l : List Int, l.length = len ∧ len ≤ cap ∧ cap ≤ maxLen ∧ RI w .u8 (.slice a len cap) l ∧ ∀ x ∈ l, 0 ≤ x ∧ x < 256 := by
 rcases open_ints Tryz.underlying22 Tryz.underlying5 (by kernel_rfl) h with ⟨hcs, _⟩ | ⟨x, l, c, zs, hcs, _, hl, hm, hz, _, hcell, hwz⟩
 ·simp at hcs
  obtain ⟨rfl, rfl, rfl⟩ := hcs
  exact ⟨[], rfl, Nat.le_refl _, by simp [maxLen], ⟨none, 0, rfl, Nat.le_refl _, Reads.none_⟩, by simp⟩
 ·simp at hcs
  obtain ⟨rfl, rfl, rfl⟩ := hcs
  have hzl : len ≤ zs.length := by rw [hz]; split <;> omega
  have hlen : (zs.take len).length = len := by rw [List.length_take]; omega
  refine ⟨zs.take len, hlen, hl, hm, ⟨some x, cap, by rw [hlen], by rw [hlen]; exact hl, by rw [hlen, List.length_map, hlen, Nat.mul_one], fun h0 => ?_⟩, fun n hn => ?_⟩
  ·have hx := hcell 0 (by rw [hlen] at h0; omega)
   have hb : (x.add 0).block < w.heap.size := by
    rcases Nat.lt_or_ge (x.add 0).block w.heap.size with h | h
    ·exact h
    ·simp [World.cell?, Array.getElem?_eq_none h] at hx
   refine ⟨x, rfl, hb, fun j u hu => ?_⟩
   rw [List.getElem?_map] at hu
   cases hj : (zs.take len)[j]? with
   | none => rw [hj] at hu; cases hu
   | some n =>
    rw [hj] at hu
    injection hu with hu
    subst hu
    have hlt := (List.getElem?_eq_some_iff.1 hj).1
    rw [hlen] at hlt
    rw [hcell j (by omega)]
    rw [List.getElem?_take, if_pos hlt] at hj
    rw [List.getD, hj]; rfl
  ·have := bounds_u8 (hwz n (List.mem_of_mem_take hn)); omega
end Go.Proofs.YtdcganigfihkjaaGreatDoor
/- What a row lists of the variables is what the walks ask. -/
namespace Go.Proofs.YtdcganigfihkjaaGreatDoor
open Go Go.Ab Go.RowKit Go.Chr
set_option maxRecDepth 100000
def laidL : List (String × DataW Unit) := [("chronicle/field.moduli", Rows.laid_chronicle_field_moduli), ("chronicle/sha256.first", Rows.laid_chronicle_sha256_first), ("chronicle/sha256.constants", Rows.laid_chronicle_sha256_constants), ("chronicle/p256.b", Rows.laid_chronicle_p256_b), ("chronicle/p256.one", Rows.laid_chronicle_p256_one)]
theorem cellsMod : Tryz.prog.cellsOf 68 = 9 := by kernel_rfl
theorem mod_part {w : World} {fuel : Nat} {cs : List Value} {p : List MemPlace} {A B : List Int} {v : Int}
  (h : DataW.trod (fun _ => ()) Tryz.prog w 0 (fun _ => true) false fuel 68 cs = some (.agg [Lib.tabData .u64 A, Lib.tabData .u64 B, .lit (.int .u64 v)], p)) : cs = (A ++ (B ++ [v])).map (Value.int .u64) := by
 obtain ⟨y0, y1, y2, n, e, hl, h0, h1, h2⟩ := Deep.trod_struct3 Tryz.underlying68 h
 injection e with e1 e2
 injection e1 with e1
 injection e1 with e3 e1
 injection e1 with e4 e1
 injection e1 with e5 e1
 obtain ⟨d0, p0⟩ := y0
 obtain ⟨d1, p1⟩ := y1
 obtain ⟨d2, p2⟩ := y2
 dsimp only at e3 e4 e5
 subst e3; subst e4; subst e5
 rw [cellsMod] at hl
 dsimp only at h0 h1 h2
 rw [cellsNat] at h0 h1
 rw [cells64] at h2
 have c0 := Lib.cells_of_tab Tryz.underlying27 Tryz.underlying25 cells64 cellsNat h0
 have c1 := Lib.cells_of_tab Tryz.underlying27 Tryz.underlying25 cells64 cellsNat h1
 obtain ⟨z, c2, e, _⟩ := DataW.trod_int Tryz.underlying25 h2
 injection e with e e'
 injection e with e
 injection e with _ e
 subst e
 have e1 : cs = (cs.drop 0).take 4 ++ ((cs.drop 4).take 4 ++ (cs.drop 8).take 1) := by
  match cs, hl with
  | [_, _, _, _, _, _, _, _, _], _ => rfl
 rw [e1, c0, c1, c2]
 simp
theorem nat_cells {w : World} {fuel : Nat} {cs : List Value} {p : List MemPlace} {A : List Int} (h : DataW.trod (fun _ => ()) Tryz.prog w 0 (fun _ => true) false fuel 27 cs = some (Lib.tabData .u64 A, p)) : cs = A.map (Value.int .u64) :=
 Lib.cells_of_tab Tryz.underlying27 Tryz.underlying25 cells64 cellsNat h
theorem env_blk {W : World} {g t n : Nat} {v : CV} {cs : Array Value} (hh : W.heap[g]? = some (.cells cs t (0, 0))) (hl : cs.size = n) (hv : v.rel (fun k => k < W.heap.size) W cs.toList) :
  g < W.heap.size ∧ ∃ ty esz body xs post, gBlk t n v = .cells ty esz body ∧ Lies (fun _ => none) (fun k => k < W.heap.size) W ⟨g, 0, 0, 1, false⟩ ty esz body [] xs post := by
 refine ⟨?_, t, n, _, cs.toList, [], rfl, by simpa using hh, rfl, ⟨cs.toList, [], by simp, by simpa using hl, hv, rfl⟩, rfl⟩
 rcases Nat.lt_or_ge g W.heap.size with h | h
 ·exact h
 ·rw [Array.getElem?_eq_none h] at hh; cases hh
theorem mem_of_lookup {g : Nat} {b : Blk'} : ∀ {l : List (Nat × Blk')}, l.lookup g = some b → (g, b) ∈ l
 | [], h => by cases h
 | (k, x) :: l, h => by
  rw [List.lookup_cons] at h
  cases hk : g == k with
  | true => rw [hk] at h; injection h with h; subst h; rw [eq_of_beq hk]; exact List.mem_cons_self ..
  | false => rw [hk] at h; exact List.mem_cons_of_mem _ (mem_of_lookup h)
theorem laid_cells {W : World} {n : String} {d : DataW Unit} {g t : Nat} (h : laidMetH Tryz.prog laidL W) (hsh : W.ShapedOpen Tryz.prog) (hm : (n, d) ∈ laidL) (hg : Tryz.prog.globalNamed n = some g)
  (ht : (Tryz.prog.globals[g]?).map (·.type) = some t) (hlt : Nat.ble (g + 1) Tryz.prog.globals.size = true) (h0 : (((begin Tryz.prog (fun _ _ => 0) default).world.heap[g]?).bind Obj.row?).map Prod.snd = some t) :
  ∃ cs fuel p, W.heap[g]? = some (.cells cs t (0, 0)) ∧ DataW.trod (fun _ => ()) Tryz.prog W 0 (fun _ => true) false fuel t cs.toList = some (d, p) := by
 have h : laidMet Tryz.prog laidL W := h
 obtain ⟨ps, hl, _⟩ := h
 obtain ⟨g', t', cs, fuel, p, h1, h2, h3, h4⟩ := laid_at hl hm
 rw [hg] at h1
 injection h1 with h1
 subst h1
 rw [ht] at h2
 injection h2 with h2
 subst h2
 exact ⟨cs, fuel, p, laid_blk hg h3 hsh (Nat.le_of_ble_eq_true hlt) h0, h4⟩
theorem parts4 {l : List Value} (h : l.length = 36) : l = (l.drop 0).take 9 ++ ((l.drop 9).take 9 ++ ((l.drop 18).take 9 ++ (l.drop 27).take 9)) := by
 rw [List.take_of_length_le (l := l.drop 27) (by simp; omega)]
 have e1 : l.drop 27 = (l.drop 18).drop 9 := by rw [List.drop_drop]
 have e2 : l.drop 18 = (l.drop 9).drop 9 := by rw [List.drop_drop]
 rw [e1, List.take_append_drop, e2, List.take_append_drop, List.drop_zero, List.take_append_drop]
theorem cells4Mod : Tryz.prog.cellsOf 95 = 36 := by kernel_rfl
theorem mod_cells {w : World} {fuel : Nat} {cs : List Value} {p : List MemPlace} (h : DataW.trod (fun _ => ()) Tryz.prog w 0 (fun _ => true) false fuel 95 cs = some (Rows.laid_chronicle_field_moduli, p)) : cs = modL.map (Value.int .u64) := by
 obtain ⟨xs, m, -, e, hl, hx, hi⟩ := DataW.trod_array Tryz.underlying95 h
 injection e with e _
 rw [cells4Mod] at hl
 rw [cellsMod] at hi
 match xs, hx with
 | [(d0, q0), (d1, q1), (d2, q2), (d3, q3)], _ =>
  injection e with e
  injection e with e0 e
  injection e with e1 e
  injection e with e2 e
  injection e with e3 e
  dsimp only at e0 e1 e2 e3
  subst e0; subst e1; subst e2; subst e3
  have h0 := mod_part (A := [18446744073709551615, 4294967295, 0, 18446744069414584321]) (B := [3, 18446744056529682431, 18446744073709551614, 21474836477]) (v := 1) (hi 0 (by omega))
  have h1 := mod_part (A := [17562291160714782033, 13611842547513532036, 18446744073709551615, 18446744069414584320]) (B := [9449762124159643298, 5087230966250696614, 2901921493521525849, 7413256579398063648]) (v := 14758798090332847183) (hi 1 (by omega))
  have h2 := mod_part (A := [18446744073709551597, 18446744073709551615, 18446744073709551615, 9223372036854775807]) (B := [1444, 0, 0, 0]) (v := 9708812670373448219) (hi 2 (by omega))
  have h3 := mod_part (A := [6346243789798364141, 1503914060200516822, 0, 1152921504606846976]) (B := [11819153939886771969, 14991950615390032711, 14910419812499177061, 259310039853996605]) (v := 15183074304973897243) (hi 3 (by omega))
  rw [parts4 hl]
  rw [show (0 : Nat) * 9 = 0 from rfl] at h0
  rw [show (1 : Nat) * 9 = 9 from rfl] at h1
  rw [show (2 : Nat) * 9 = 18 from rfl] at h2
  rw [show (3 : Nat) * 9 = 27 from rfl] at h3
  rw [h0, h1, h2, h3]
  rfl
theorem ok64 {l : List Int} (h : (l.all fun x => decide (0 ≤ x) && decide (x < 18446744073709551616)) = true) : ∀ x ∈ l, okI .u64 x := fun x hx => by
 have := List.all_eq_true.1 h x hx
 simp only [Bool.and_eq_true, decide_eq_true_eq] at this
 exact okI_u64.2 this
theorem ok32 {l : List Int} (h : (l.all fun x => decide (0 ≤ x) && decide (x < 4294967296)) = true) : ∀ x ∈ l, okI .u32 x := fun x hx => by
 have := List.all_eq_true.1 h x hx
 simp only [Bool.and_eq_true, decide_eq_true_eq] at this
 exact okI_u32.2 this
theorem size_map {cs : Array Value} {k : IntKind} {l : List Int} {n : Nat} (h : cs.toList = l.map (Value.int k)) (hn : l.length = n) : cs.size = n := by
 rw [← Array.length_toList, h, List.length_map, hn]
theorem env_of_laid {W : World} (h : laidMetH Tryz.prog laidL W) (hsh : W.ShapedOpen Tryz.prog) : Env CX (fun k => k < W.heap.size) W := by
 refine ⟨fun k hk => hk, fun g blk hg => ?_⟩
 have hm := mem_of_lookup hg
 unfold CX at hm
 simp only [List.mem_cons, List.not_mem_nil, or_false] at hm
 rcases hm with e | e | e | e | e <;> injection e with e1 e2 <;> subst e1 <;> subst e2
 ·obtain ⟨cs, fuel, p, h1, h2⟩ := laid_cells (d := Rows.laid_chronicle_field_moduli) (n := "chronicle/field.moduli") (g := 2) (t := 95) h hsh (.head _) (by kernel_rfl) (by kernel_rfl) (by kernel_rfl) (by kernel_rfl)
  have hc := mod_cells h2
  exact env_blk h1 (size_map hc rfl) ⟨hc, rfl, ok64 (by kernel_rfl)⟩
 ·obtain ⟨cs, fuel, p, h1, h2⟩ := laid_cells (d := Rows.laid_chronicle_p256_one) (n := "chronicle/p256.one") (g := 0) (t := 27) h hsh (.tail _ (.tail _ (.tail _ (.tail _ (.head _))))) (by kernel_rfl) (by kernel_rfl) (by kernel_rfl) (by kernel_rfl)
  have hc := nat_cells (A := [1, 0, 0, 0]) h2
  exact env_blk h1 (size_map hc rfl) ⟨hc, Nat.le_of_ble_eq_true (by kernel_rfl), Nat.le_refl _⟩
 ·obtain ⟨cs, fuel, p, h1, h2⟩ := laid_cells (d := Rows.laid_chronicle_p256_b) (n := "chronicle/p256.b") (g := 1) (t := 27) h hsh (.tail _ (.tail _ (.tail _ (.head _)))) (by kernel_rfl) (by kernel_rfl) (by kernel_rfl) (by kernel_rfl)
  have hc := nat_cells (A := natL cvB) h2
  exact env_blk h1 (size_map hc rfl) ⟨hc, Nat.le_of_ble_eq_true (by kernel_rfl), Nat.le_refl _⟩
 ·obtain ⟨cs, fuel, p, h1, h2⟩ := laid_cells (d := Rows.laid_chronicle_sha256_first) (n := "chronicle/sha256.first") (g := 3) (t := 101) h hsh (.tail _ (.head _)) (by kernel_rfl) (by kernel_rfl) (by kernel_rfl) (by kernel_rfl)
  have hc := Lib.cells_of_tab (k := .u32) (zs := shaH) Tryz.underlying101 Tryz.underlying99 (by kernel_rfl) (by kernel_rfl) h2
  exact env_blk h1 (size_map hc rfl) ⟨hc, rfl, ok32 (by kernel_rfl)⟩
 ·obtain ⟨cs, fuel, p, h1, h2⟩ := laid_cells (d := Rows.laid_chronicle_sha256_constants) (n := "chronicle/sha256.constants") (g := 4) (t := 135) h hsh (.tail _ (.tail _ (.head _))) (by kernel_rfl) (by kernel_rfl) (by kernel_rfl) (by kernel_rfl)
  have hc := Lib.cells_of_tab (k := .u32) (zs := shaK) Tryz.underlying135 Tryz.underlying99 (by kernel_rfl) (by kernel_rfl) h2
  exact env_blk h1 (size_map hc rfl) ⟨hc, rfl, ok32 (by kernel_rfl)⟩
theorem bytes_val {ι : Nat → Option Ab.Loc} {W : World} {v : Value} {l : List Int} (h : RI W .u8 v l) (hb : ∀ x ∈ l, 0 ≤ x ∧ x < 256) : (AV.c (.ints .u8 l)).val ι (fun k => k < W.heap.size) W v := by
 obtain ⟨A, c, rfl, hc, _, hr⟩ := h
 exact ⟨⟨A, c, rfl, hc, fun h0 => by obtain ⟨ad, e, h1, h2⟩ := hr h0; exact ⟨ad, e, h1, h2⟩⟩, fun x hx => okI_u8.2 (hb x hx)⟩
def cellsB (o : Obj) (cs : Array Value) : Obj := match o with
 | .cells _ t fr => .cells cs t fr
 | o => o
noncomputable def laidHeap (h : Array Obj) : Array Obj :=
 let h := h.modify 2 fun o => cellsB o (modL.map (Value.int .u64)).toArray
 let h := h.modify 0 fun o => cellsB o #[.int .u64 1, .int .u64 0, .int .u64 0, .int .u64 0]
 let h := h.modify 1 fun o => cellsB o #[.int .u64 4309448131093880907, .int .u64 7285987128567378166, .int .u64 12964664127075681980, .int .u64 6540974713487397863]
 let h := h.modify 3 fun o => cellsB o (shaH.map (Value.int .u32)).toArray
 h.modify 4 fun o => cellsB o (shaK.map (Value.int .u32)).toArray
noncomputable def laidWorld (os : Os) : World := { World.holding Tryz.prog os ⟨#[], #[], []⟩ with heap := laidHeap (World.holding Tryz.prog os ⟨#[], #[], []⟩).heap }
end Go.Proofs.YtdcganigfihkjaaGreatDoor
/- EcdsaSigns: the row, and its tied card. -/
namespace Go.Proofs.YtdcganigfihkjaaGreatDoor
open Go Go.Ab Go.ChangeShapes Go.WideShapes Go.ChangeAt Go.RowKit Go.Chr Go.Joins
set_option maxRecDepth 100000
theorem ecdsaSigns_contract (H : Type) (enc : TypeId × Value → H) (W : World) (base : Nat) (args : Array Value) (ds gs : List (DataW H)) (before : List MemPlace)
  (hval0 : ∀ (j : Nat) t v, Tryz.f4.params[j]? = some t → args[j]? = some v → Value.okWide Tryz.prog W .any base t v)
  (hW : DataW.Whole enc Tryz.prog Tryz.f4.params.toList Rows.ecdsaSignsSpec.vars false W args.toList ds gs before) (hL : laidMetH Tryz.prog laidL W) (hsh : W.ShapedOpen Tryz.prog) :
  Calls Tryz.prog 4 args W fun e W' => ∃ v, e = .returned v ∧ Rows.ecdsaSignsSpec.post enc Tryz.prog Tryz.f4 false true false false W args v W' := by
 have hval : ∀ (j : Nat) t v, Tryz.f4.params[j]? = some t → args[j]? = some v → Value.okWide Tryz.prog W .any base t v := hval0
 have hW' := hW
 obtain ⟨p, q, hA0, hV, rfl, hfz, hnd⟩ := hW
 have hA : DataW.TrodAll enc Tryz.prog W 0 (fun _ => true) true Tryz.f4.params.toList args.toList ds p := hA0
 rw [Tryz.params4] at hA hval
 obtain ⟨v0, vs0, d0, ds0, p0, q0, hargs, rfl, rfl, h0, r0⟩ := trodAll_cons hA
 obtain ⟨v1, vs1, d1, ds1, p1, q1, rfl, rfl, rfl, h1, r1⟩ := trodAll_cons r0
 obtain ⟨rfl, rfl, rfl⟩ := trodAll_nil r1
 obtain rfl : args = #[v0, v1] := by cases args; simp_all
 obtain ⟨rfl, rfl⟩ := trodVars_none hV
 have lt0 : ∀ x ∈ p0, x.block < W.heap.size := by obtain ⟨m, hm⟩ := h0; exact DataW.trod_lt m _ _ _ hm
 have k0 := h0
 have lt1 : ∀ x ∈ p1, x.block < W.heap.size := by obtain ⟨m, hm⟩ := h1; exact DataW.trod_lt m _ _ _ hm
 have k1 := h1
 obtain ⟨a0, b0, c0, e0, rfl, hb0⟩ := open_nat (hval 0 27 v0 rfl rfl) h0
 have g0 := natOf_rel (l := [a0, b0, c0, e0]) rfl fun x hx => okI_u64.2 (by have := hb0 x hx; omega)
 obtain ⟨a1, len1, cap1, rfl⟩ := okWide_slice Tryz.underlying22 (hval 1 22 v1 rfl rfl)
 obtain ⟨fuel1, hf1⟩ := h1
 obtain ⟨l1, hl1, -, -, hr1, hy1⟩ := open_bytes hf1
 clear hA0 hval0
 have hc := top_calls (modes := [true, true]) (v := .c (.bool true)) (args := [.c (.nat two256 (natOf [a0, b0, c0, e0])), .c (.ints .u8 l1)]) signs_ok (by kernel_rfl) (env_of_laid hL hsh) ⟨_, _, rfl, limbs_val g0, ⟨_, _, rfl, bytes_val hr1 hy1, rfl⟩⟩ (fun k => by kernel_rfl)
 rw [CX_P] at hc
 refine Calls.mono hc fun e W' ⟨u, he, ⟨ι', N', hu⟩, bel⟩ => ?_
 have hu : [u] = [Value.bool true] := hu
 injection hu with hu
 subst hu
 subst he
 exact ⟨_, rfl, _, _, _, [], _, [], hW', trodAll_mk1 (shut_bool Tryz.underlying4 _), (trodAll_cons_mk (Below.trod laidOut (by kernel_rfl) (of_decide_eq_true (by kernel_rfl)) k0 bel lt0) (trodAll_cons_mk (Below.trod laidOut (by kernel_rfl) (of_decide_eq_true (by kernel_rfl)) k1 bel lt1) trodAll_mk0)), rfl, bel.frame _, fun h => by cases h⟩
theorem ecdsaSigns_laid (os : Os) : laidMet Tryz.prog laidL ((laidWorld os).forCall (fun _ _ => 0) ⟨#[], #[.agg #[.int .u64 0, .int .u64 0, .int .u64 0, .int .u64 0], .slice none 0 0], []⟩).memory :=
 laidMet_of_run' 8 (by kernel_rfl) (by kernel_rfl)
theorem ecdsaSigns_reads (os : Os) {H : Type} (enc : TypeId × Value → H) : ∃ places, DataW.whole enc Tryz.prog ((laidWorld os).forCall (fun _ _ => 0) ⟨#[], #[.agg #[.int .u64 0, .int .u64 0, .int .u64 0, .int .u64 0], .slice none 0 0], []⟩).memory Tryz.f4.params.toList Rows.ecdsaSignsSpec.vars false (#[.agg #[.int .u64 0, .int .u64 0, .int .u64 0, .int .u64 0], .slice none 0 0] : Array Value).toList 8 = some ([.agg [.lit (.int .u64 0), .lit (.int .u64 0), .lit (.int .u64 0), .lit (.int .u64 0)], .nil], [], places) :=
 ⟨[], by kernel_rfl⟩
theorem ecdsaSigns_lifted (os : Os) (started : os.Started) (H : Type) (enc : TypeId × Value → H) (F : Stop.Interp) :
  ReturnsInHanded {} Tryz.checked os 4 .any ((OpenSpec.ofChange Rows.ecdsaSignsSpec).preRow enc Tryz.prog Tryz.f4 Rows.ecdsaSignsRow.domain false Rows.ecdsaSignsRow.laid) (((OpenSpec.ofChange Rows.ecdsaSignsSpec).at F).post enc Tryz.prog Tryz.f4 false true false false) := by
 obtain ⟨places, hx⟩ := ecdsaSigns_reads os enc
 refine returnsInHanded_of_row (C := Tryz.checked) (s := OpenSpec.ofChange Rows.ecdsaSignsSpec) own started (by kernel_rfl) Tryz.func4
  (witness_row_at (enc := enc) (C := Tryz.checked) false (laidWorld os) #[.agg #[.int .u64 0, .int .u64 0, .int .u64 0, .int .u64 0], .slice none 0 0] rfl (by kernel_rfl) (by kernel_rfl) (by kernel_rfl)
   (OpenSpec.preRow_of_cond 8 hx (by kernel_rfl) (fun k hk => by cases hk) (by kernel_rfl) (ecdsaSigns_laid os))) ?_
 intro W base args ds gs before hval hW _ _ _ hL hsh _
 exact ecdsaSigns_contract H enc W base args ds gs before hval hW hL hsh
theorem ecdsaSigns_said : Rows.EcdsaSignsSaid :=
 OpenClaim.holds_of_cond 4 Tryz.f4 rfl rfl rfl rfl rfl rfl rfl ⟨rfl, rfl, rfl, rfl, rfl⟩ rfl rfl rfl rfl rfl (by kernel_rfl) Tryz.func4 (by kernel_rfl)
  (of_decide_eq_true (by kernel_rfl)) (by unfold Func.isWrapper; first | (rw [if_pos (by decide +kernel)]; kernel_rfl) | (rw [if_neg (by decide +kernel)]; exact ⟨rfl, rfl⟩))
  (fun os started H enc _ F => by rw [OpenClaim.pre_eq_preRow]; exact ecdsaSigns_lifted os started H enc F)
theorem ecdsaSigns_plain (f : FuncId) (fn : Func) (hf : Tryz.pinned.checked.prog.funcNamed "chronicle/chroniclelaw11.EcdsaSigns" = some f) (hfn : Tryz.pinned.checked.prog.funcs[f]? = some fn) :
  false = Tryz.pinned.checked.prog.looks [] ∧ ∀ (j : Nat) t, fn.params[j]? = some t → Tryz.pinned.checked.prog.wantsStandIn t = false := by
 obtain rfl : f = 4 := Option.some.inj ((show Tryz.prog.funcNamed "chronicle/chroniclelaw11.EcdsaSigns" = some 4 by kernel_rfl).symm.trans hf) |>.symm
 obtain rfl : fn = Tryz.f4 := (Option.some.inj (Tryz.func4.symm.trans hfn)).symm
 refine ⟨by kernel_rfl, fun j t ht => ?_⟩
 rw [Tryz.params4] at ht
 have hm := Array.mem_of_getElem? ht
 simp only [List.mem_toArray, List.mem_cons, List.not_mem_nil, or_false] at hm
 rcases hm with rfl | rfl
 ·exact (show Tryz.prog.wantsStandIn 27 = false by kernel_rfl)
 ·exact (show Tryz.prog.wantsStandIn 22 = false by kernel_rfl)
theorem ecdsaSigns_card : Rows.EcdsaSignsCardSaid :=
 Claim7.holds_tied_plain_at .later [] _ _ _ _ ecdsaSigns_said (fun _ h => by cases h) (by kernel_rfl) (fun _ h => by cases h) ecdsaSigns_row_tie rfl ⟨rfl, rfl⟩ (by kernel_rfl) rfl ecdsaSigns_plain (by kernel_rfl)
end Go.Proofs.YtdcganigfihkjaaGreatDoor
