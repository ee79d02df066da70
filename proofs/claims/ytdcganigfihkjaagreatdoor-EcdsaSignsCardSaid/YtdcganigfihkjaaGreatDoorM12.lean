import Derived.Test.YtdcganigfihkjaaGreatDoorM11
import Derived.Test.YtdcganigfihkjaaGreatDoorM6
import Derived.Test.YtdcganigfihkjaaGreatDoorM9
/- The layer sha256: a block. -/
namespace Go.Proofs.YtdcganigfihkjaaGreatDoor
open Go Go.Ab Go.RowKit Go.Chr
set_option maxRecDepth 100000
noncomputable def rotl32S : FSpec := fun xs bl => match xs, bl with
 | [.c (.int .u32 x), .c (.int .i64 n)], [] => some (none, ⟨.c (.int .u32 (rotl32 x n)), [], []⟩)
 | _, _ => none
theorem rotl32_ok : FnOk CX 127 rotl32S := by
 refine fnOkF hmo G2_ok (fn := Tryz.f127) (c := bodyOf' Tryz.f127) (by kernel_rfl) (by kernel_rfl) (by kernel_rfl) ?_
 intro xs bl p o hF hp
 unfold rotl32S at hF
 split at hF
 ·rename_i x n
  injection hF with hF; injection hF with e1 e2; subst e1; subst e2
  refine ⟨Nat.le_of_ble_eq_true (by kernel_rfl), fun X hX hfa => ⟨[], 999, ?_⟩⟩
  refine kto (q := some (Out.mk (AV.c (CV.int IntKind.u32 (ior IntKind.u32 (ishl IntKind.u32 x (iand IntKind.u64 (IntKind.u64.wrap n) 31)) (ishr IntKind.u32 x (IntKind.u64.wrap (32 - iand IntKind.u64 (IntKind.u64.wrap n) 31)))))) [] []) = some (Out.mk (AV.c (CV.int IntKind.u32 (rotl32 x n))) [] [])) (by kernel_rfl) ?_
  rfl
 ·cases hF
noncomputable def shaWordS : FSpec := fun xs bl => match xs, bl with
 | [.c (.ints .u8 l)], [] => some (some (4 ≤ l.length), ⟨.c (.int .u32 (word32 l)), [], []⟩)
 | _, _ => none
theorem shaWord_ok : FnOk CX 122 shaWordS := by
 refine fnOkF hmo G2_ok (fn := Tryz.f122) (c := bodyOf' Tryz.f122) (by kernel_rfl) (by kernel_rfl) (by kernel_rfl) ?_
 intro xs bl p o hF hp
 unfold shaWordS at hF
 split at hF
 ·rename_i l
  injection hF with hF; injection hF with e1 e2; subst e1; subst e2
  refine ⟨Nat.le_of_ble_eq_true (by kernel_rfl), fun X hX hfa => ⟨[], 999, ?_⟩⟩
  have hp : 4 ≤ l.length := hp
  refine kto (q := bif decide (0 < (Nat.cast (R := Int) l.length)) then bif decide (1 < (Nat.cast (R := Int) l.length)) then bif decide (2 < (Nat.cast (R := Int) l.length)) then bif decide (3 < (Nat.cast (R := Int) l.length)) then some (Out.mk (AV.c (CV.int IntKind.u32 (ior IntKind.u32 (ior IntKind.u32 (ior IntKind.u32 (ishl IntKind.u32 (IntKind.u32.wrap (l.getD 0 0)) 24) (ishl IntKind.u32 (IntKind.u32.wrap (l.getD 1 0)) 16)) (ishl IntKind.u32 (IntKind.u32.wrap (l.getD 2 0)) 8)) (IntKind.u32.wrap (l.getD 3 0))))) [] []) = some (Out.mk (AV.c (CV.int IntKind.u32 (word32 l))) [] []) else False else False else False else False) (by kernel_rfl) ?_
  exact cond_at (by simp; omega) <| cond_at (by simp; omega) <| cond_at (by simp; omega) <| cond_at (by simp; omega) rfl
 ·cases hF
noncomputable def G3a : Tab := (127, lift [true, true] rotl32S) :: (122, lift [true] shaWordS) :: G2
theorem G3a_ok : TabOk CX G3a := .cons (lift_ok rotl32_ok _) <| .cons (lift_ok shaWord_ok _) G2_ok
noncomputable def shaRightS : FSpec := fun xs bl => match xs, bl with
 | [.c (.int .u32 x), .c (.int .i64 n)], [] => some (none, ⟨.c (.int .u32 (rotr32 x n)), [], []⟩)
 | _, _ => none
theorem shaRight_ok : FnOk CX 123 shaRightS := by
 refine fnOkF hmo G3a_ok (fn := Tryz.f123) (c := bodyOf' Tryz.f123) (by kernel_rfl) (by kernel_rfl) (by kernel_rfl) ?_
 intro xs bl p o hF hp
 unfold shaRightS at hF
 split at hF
 ·rename_i x n
  injection hF with hF; injection hF with e1 e2; subst e1; subst e2
  refine ⟨Nat.le_of_ble_eq_true (by kernel_rfl), fun X hX hfa => ⟨[], 999, ?_⟩⟩
  refine kto (q := some (Out.mk (AV.c (CV.int IntKind.u32 (rotl32 x (IntKind.i64.wrap (0 - n))))) [] []) = some (Out.mk (AV.c (CV.int IntKind.u32 (rotr32 x n))) [] [])) (by kernel_rfl) ?_
  rfl
 ·cases hF
noncomputable def G3 : Tab := (123, lift [true, true] shaRightS) :: G3a
theorem G3_ok : TabOk CX G3 := .cons (lift_ok shaRight_ok _) G3a_ok
def tkI (s l : List Int) (ls : List (Nat × AV)) (ws : List Int) : St :=
 ⟨(2, .ptr (.l 0) 0 8 0) :: (4, .ptr (.l 1) 0 8 0) :: (5, .ptr (.l 2) 0 64 0) :: ls, [(0, .cells 101 8 (.els [.c (.arr .u32 8 s)])), (1, .cells 101 8 (.els [.c (.arr .u32 8 (List.replicate 8 0))])), (2, .cells 135 64 (.els [.c (.arr .u32 64 ws)]))], 3, 185⟩
theorem takes_l0 {X : Snap} (hX : ∀ b L, X.ι b = some L → b < 0) (s l : List Int) : LOk CX X 0 (loopAt 0 Tryz.f110) (loopW 0 [] [2, 4, 5, 1, 21] (tkI s l [(1, .c (.ints .u8 l)), (21, .c (.int .i64 0))] (ws0 l 0)) (l.length = 64) false (tkI s l [] (ws0 l 16))) := by
 refine loopW_ok hmo G3_ok (by kernel_rfl) hX [2, 4, 5] [] (fun t : Nat => tkI s l [(1, .c (.ints .u8 l)), (21, .c (.int .i64 t))] (ws0 l t)) (fun t => t ≤ 16) (fun t => 16 - t) 0 (fun _ => rfl) (fun _ => by omega) ?_
 intro hp t ht hfa
 refine ⟨[], 999, ?_⟩
 refine kto (q := bif decide ((Nat.cast (R := Int) t) < 16) then bif bndB l.length (some (IntKind.i64.wrap (4 * (Nat.cast (R := Int) t)))) none then 4 ≤ (List.take (natSub (hiB l.length none) (loB (some (IntKind.i64.wrap (4 * (Nat.cast (R := Int) t)))))) (List.drop (loB (some (IntKind.i64.wrap (4 * (Nat.cast (R := Int) t))))) l)).length ∧ bif decide ((Nat.cast (R := Int) t) < (Nat.cast (R := Int) 64)) then ∃ (v' : Nat), some (St.mk [(2, AV.ptr (Base.l 0) 0 8 0), (4, AV.ptr (Base.l 1) 0 8 0), (5, AV.ptr (Base.l 2) 0 64 0), (1, AV.c (CV.ints IntKind.u8 l)), (21, AV.c (CV.int IntKind.i64 (IntKind.i64.wrap ((Nat.cast (R := Int) t) + 1))))] [(0, Blk'.cells 101 8 (Body.els [AV.c (CV.arr IntKind.u32 8 s)])), (1, Blk'.cells 101 8 (Body.els [AV.c (CV.arr IntKind.u32 8 (List.replicate 8 0))])), (2, Blk'.cells 135 64 (Body.els [AV.c (CV.arr IntKind.u32 64 ((ws0 l t).set (0 + (Nat.cast (R := Int) t).toNat * 1) (word32 (List.take (natSub (hiB l.length none) (loB (some (IntKind.i64.wrap (4 * (Nat.cast (R := Int) t)))))) (List.drop (loB (some (IntKind.i64.wrap (4 * (Nat.cast (R := Int) t))))) l)))))]))] 3 185) = some (tkI s l [(1, AV.c (CV.ints IntKind.u8 l)), (21, AV.c (CV.int IntKind.i64 (Nat.cast (R := Int) v')))] (ws0 l v')) ∧ 16 - v' < 16 - t ∧ v' ≤ 16 else False else False else false = false ∧ some (St.mk [(2, AV.ptr (Base.l 0) 0 8 0), (4, AV.ptr (Base.l 1) 0 8 0), (5, AV.ptr (Base.l 2) 0 64 0)] [(0, Blk'.cells 101 8 (Body.els [AV.c (CV.arr IntKind.u32 8 s)])), (1, Blk'.cells 101 8 (Body.els [AV.c (CV.arr IntKind.u32 8 (List.replicate 8 0))])), (2, Blk'.cells 135 64 (Body.els [AV.c (CV.arr IntKind.u32 64 (ws0 l t))]))] 3 185) = some (tkI s l [] (ws0 l 16))) (by kernel_rfl) ?_
 simp (disch := omega) only [wi, bndB, loB, hiB, natSub, Nat.mul_one, Nat.zero_add, Int.toNat_natCast]
 refine cond_intro (fun h => ?_) (fun h => ?_)
 ·simp at h
  refine cond_at (by simp; omega) ⟨?_, cond_at (by simp; omega) ⟨t + 1, ?_, by omega, by omega⟩⟩
  ·simp; omega
  ·have e : (4 * (t : Int)).toNat = 4 * t := by omega
   rw [e, List.take_of_length_le (by simp)]
   show _ = _
   kernel_rfl
 ·simp at h
  have e : t = 16 := by omega
  subst e; exact ⟨by simp, by kernel_rfl⟩
theorem takes_l2 {X : Snap} (hX : ∀ b L, X.ι b = some L → b < 0) (s l : List Int) : LOk CX X 2 (loopAt 2 Tryz.f110) (loopW 0 [] [2, 4, 5, 7] (tkI s l [(7, .c (.int .i64 16))] (wsN l 0)) True false (tkI s l [] (wsN l 48))) := by
 refine loopW_ok hmo G3_ok (by kernel_rfl) hX [2, 4, 5] [] (fun t : Nat => tkI s l [(7, .c (.int .i64 ((16 + t : Nat) : Int)))] (wsN l t)) (fun t => t ≤ 48) (fun t => 48 - t) 0 (fun _ => rfl) (fun _ => by omega) ?_
 intro hp t ht hfa
 refine ⟨[], 999, ?_⟩
 refine kto (q := bif decide ((Nat.cast (R := Int) (16 + t)) < 64) then bif decide (0 ≤ IntKind.i64.wrap ((Nat.cast (R := Int) (16 + t)) - 15)) && decide (IntKind.i64.wrap ((Nat.cast (R := Int) (16 + t)) - 15) < (Nat.cast (R := Int) 64)) then bif decide (0 ≤ IntKind.i64.wrap ((Nat.cast (R := Int) (16 + t)) - 2)) && decide (IntKind.i64.wrap ((Nat.cast (R := Int) (16 + t)) - 2) < (Nat.cast (R := Int) 64)) then bif decide (0 ≤ IntKind.i64.wrap ((Nat.cast (R := Int) (16 + t)) - 7)) && decide (IntKind.i64.wrap ((Nat.cast (R := Int) (16 + t)) - 7) < (Nat.cast (R := Int) 64)) then bif decide (0 ≤ IntKind.i64.wrap ((Nat.cast (R := Int) (16 + t)) - 16)) && decide (IntKind.i64.wrap ((Nat.cast (R := Int) (16 + t)) - 16) < (Nat.cast (R := Int) 64)) then bif decide ((Nat.cast (R := Int) (16 + t)) < (Nat.cast (R := Int) 64)) then ∃ (v' : Nat), some (St.mk [(2, AV.ptr (Base.l 0) 0 8 0), (4, AV.ptr (Base.l 1) 0 8 0), (5, AV.ptr (Base.l 2) 0 64 0), (7, AV.c (CV.int IntKind.i64 (IntKind.i64.wrap ((Nat.cast (R := Int) (16 + t)) + 1))))] [(0, Blk'.cells 101 8 (Body.els [AV.c (CV.arr IntKind.u32 8 s)])), (1, Blk'.cells 101 8 (Body.els [AV.c (CV.arr IntKind.u32 8 (List.replicate 8 0))])), (2, Blk'.cells 135 64 (Body.els [AV.c (CV.arr IntKind.u32 64 ((wsN l t).set (0 + (Nat.cast (R := Int) (16 + t)).toNat * 1) (IntKind.u32.wrap (IntKind.u32.wrap (IntKind.u32.wrap (ixor IntKind.u32 (ixor IntKind.u32 (rotr32 ((wsN l t).getD (0 + (IntKind.i64.wrap ((Nat.cast (R := Int) (16 + t)) - 2)).toNat * 1) 0) 17) (rotr32 ((wsN l t).getD (0 + (IntKind.i64.wrap ((Nat.cast (R := Int) (16 + t)) - 2)).toNat * 1) 0) 19)) (ishr IntKind.u32 ((wsN l t).getD (0 + (IntKind.i64.wrap ((Nat.cast (R := Int) (16 + t)) - 2)).toNat * 1) 0) 10) + (wsN l t).getD (0 + (IntKind.i64.wrap ((Nat.cast (R := Int) (16 + t)) - 7)).toNat * 1) 0) + ixor IntKind.u32 (ixor IntKind.u32 (rotr32 ((wsN l t).getD (0 + (IntKind.i64.wrap ((Nat.cast (R := Int) (16 + t)) - 15)).toNat * 1) 0) 7) (rotr32 ((wsN l t).getD (0 + (IntKind.i64.wrap ((Nat.cast (R := Int) (16 + t)) - 15)).toNat * 1) 0) 18)) (ishr IntKind.u32 ((wsN l t).getD (0 + (IntKind.i64.wrap ((Nat.cast (R := Int) (16 + t)) - 15)).toNat * 1) 0) 3)) + (wsN l t).getD (0 + (IntKind.i64.wrap ((Nat.cast (R := Int) (16 + t)) - 16)).toNat * 1) 0))))]))] 3 185) = some (tkI s l [(7, AV.c (CV.int IntKind.i64 (Nat.cast (R := Int) (16 + v'))))] (wsN l v')) ∧ 48 - v' < 48 - t ∧ v' ≤ 48 else False else False else False else False else False else false = false ∧ some (St.mk [(2, AV.ptr (Base.l 0) 0 8 0), (4, AV.ptr (Base.l 1) 0 8 0), (5, AV.ptr (Base.l 2) 0 64 0)] [(0, Blk'.cells 101 8 (Body.els [AV.c (CV.arr IntKind.u32 8 s)])), (1, Blk'.cells 101 8 (Body.els [AV.c (CV.arr IntKind.u32 8 (List.replicate 8 0))])), (2, Blk'.cells 135 64 (Body.els [AV.c (CV.arr IntKind.u32 64 (wsN l t))]))] 3 185) = some (tkI s l [] (wsN l 48))) (by kernel_rfl) ?_
 simp (disch := omega) only [wi, bndB, loB, hiB, natSub, Nat.mul_one, Nat.zero_add, Int.toNat_natCast]
 refine cond_intro (fun h => ?_) (fun h => ?_)
 ·simp at h
  refine cond_at (by simp; omega) <| cond_at (by simp; omega) <| cond_at (by simp; omega) <| cond_at (by simp; omega) <| cond_at (by simp; omega) ⟨t + 1, ?_, by omega, by omega⟩
  have e1 : (((16 + t : Nat) : Int) - 15).toNat = 16 + t - 15 := by omega
  have e2 : (((16 + t : Nat) : Int) - 2).toNat = 16 + t - 2 := by omega
  have e3 : (((16 + t : Nat) : Int) - 7).toNat = 16 + t - 7 := by omega
  have e4 : (((16 + t : Nat) : Int) - 16).toNat = 16 + t - 16 := by omega
  rw [e1, e2, e3, e4]
  show _ = _
  kernel_rfl
 ·simp at h
  have e : t = 48 := by omega
  subst e; exact ⟨by simp, by kernel_rfl⟩
def tkV (v : List Int) : List (Nat × AV) := [(10, .c (.int .u32 (v.getD 0 0))), (11, .c (.int .u32 (v.getD 1 0))), (12, .c (.int .u32 (v.getD 2 0))), (13, .c (.int .u32 (v.getD 3 0))), (14, .c (.int .u32 (v.getD 4 0))), (15, .c (.int .u32 (v.getD 5 0))), (16, .c (.int .u32 (v.getD 6 0))), (17, .c (.int .u32 (v.getD 7 0)))]
theorem takes_l4 {X : Snap} (hX : ∀ b L, X.ι b = some L → b < 0) (s l : List Int) : LOk CX X 4 (loopAt 4 Tryz.f110) (loopW 0 [] [2, 4, 5, 89, 10, 11, 12, 13, 14, 15, 16, 17] (tkI s l ((89, .c (.int .i64 0)) :: tkV s) (wsN l 48)) True false (tkI s l (tkV (rN32 shaK (wsN l 48) s 64)) (wsN l 48))) := by
 refine loopW_ok hmo G3_ok (by kernel_rfl) hX [2, 4, 5, 10, 11, 12, 13, 14, 15, 16, 17] [] (fun t : Nat => tkI s l ((89, .c (.int .i64 t)) :: tkV (rN32 shaK (wsN l 48) s t)) (wsN l 48)) (fun t => t ≤ 64) (fun t => 64 - t) 0 (fun _ => rfl) (fun _ => by omega) ?_
 intro hp t ht hfa
 refine ⟨[], 999, ?_⟩
 refine kto (q := bif decide ((Nat.cast (R := Int) t) < 64) then bif decide ((Nat.cast (R := Int) t) < (Nat.cast (R := Int) 64)) then bif decide ((Nat.cast (R := Int) t) < (Nat.cast (R := Int) 64)) then ∃ (v' : Nat), some (St.mk [(2, AV.ptr (Base.l 0) 0 8 0), (4, AV.ptr (Base.l 1) 0 8 0), (5, AV.ptr (Base.l 2) 0 64 0), (89, AV.c (CV.int IntKind.i64 (IntKind.i64.wrap ((Nat.cast (R := Int) t) + 1)))), (10, AV.c (CV.int IntKind.u32 (IntKind.u32.wrap (IntKind.u32.wrap (IntKind.u32.wrap (IntKind.u32.wrap (IntKind.u32.wrap ((rN32 shaK (wsN l 48) s t).getD 7 0 + ixor IntKind.u32 (ixor IntKind.u32 (rotr32 ((rN32 shaK (wsN l 48) s t).getD 4 0) 6) (rotr32 ((rN32 shaK (wsN l 48) s t).getD 4 0) 11)) (rotr32 ((rN32 shaK (wsN l 48) s t).getD 4 0) 25)) + ixor IntKind.u32 (iand IntKind.u32 ((rN32 shaK (wsN l 48) s t).getD 4 0) ((rN32 shaK (wsN l 48) s t).getD 5 0)) (iand IntKind.u32 (inot IntKind.u32 ((rN32 shaK (wsN l 48) s t).getD 4 0)) ((rN32 shaK (wsN l 48) s t).getD 6 0))) + shaK.getD (0 + (Nat.cast (R := Int) t).toNat * 1) 0) + (wsN l 48).getD (0 + (Nat.cast (R := Int) t).toNat * 1) 0) + IntKind.u32.wrap (ixor IntKind.u32 (ixor IntKind.u32 (rotr32 ((rN32 shaK (wsN l 48) s t).getD 0 0) 2) (rotr32 ((rN32 shaK (wsN l 48) s t).getD 0 0) 13)) (rotr32 ((rN32 shaK (wsN l 48) s t).getD 0 0) 22) + ixor IntKind.u32 (ixor IntKind.u32 (iand IntKind.u32 ((rN32 shaK (wsN l 48) s t).getD 0 0) ((rN32 shaK (wsN l 48) s t).getD 1 0)) (iand IntKind.u32 ((rN32 shaK (wsN l 48) s t).getD 0 0) ((rN32 shaK (wsN l 48) s t).getD 2 0))) (iand IntKind.u32 ((rN32 shaK (wsN l 48) s t).getD 1 0) ((rN32 shaK (wsN l 48) s t).getD 2 0))))))), (11, AV.c (CV.int IntKind.u32 ((rN32 shaK (wsN l 48) s t).getD 0 0))), (12, AV.c (CV.int IntKind.u32 ((rN32 shaK (wsN l 48) s t).getD 1 0))), (13, AV.c (CV.int IntKind.u32 ((rN32 shaK (wsN l 48) s t).getD 2 0))), (14, AV.c (CV.int IntKind.u32 (IntKind.u32.wrap ((rN32 shaK (wsN l 48) s t).getD 3 0 + IntKind.u32.wrap (IntKind.u32.wrap (IntKind.u32.wrap (IntKind.u32.wrap ((rN32 shaK (wsN l 48) s t).getD 7 0 + ixor IntKind.u32 (ixor IntKind.u32 (rotr32 ((rN32 shaK (wsN l 48) s t).getD 4 0) 6) (rotr32 ((rN32 shaK (wsN l 48) s t).getD 4 0) 11)) (rotr32 ((rN32 shaK (wsN l 48) s t).getD 4 0) 25)) + ixor IntKind.u32 (iand IntKind.u32 ((rN32 shaK (wsN l 48) s t).getD 4 0) ((rN32 shaK (wsN l 48) s t).getD 5 0)) (iand IntKind.u32 (inot IntKind.u32 ((rN32 shaK (wsN l 48) s t).getD 4 0)) ((rN32 shaK (wsN l 48) s t).getD 6 0))) + shaK.getD (0 + (Nat.cast (R := Int) t).toNat * 1) 0) + (wsN l 48).getD (0 + (Nat.cast (R := Int) t).toNat * 1) 0))))), (15, AV.c (CV.int IntKind.u32 ((rN32 shaK (wsN l 48) s t).getD 4 0))), (16, AV.c (CV.int IntKind.u32 ((rN32 shaK (wsN l 48) s t).getD 5 0))), (17, AV.c (CV.int IntKind.u32 ((rN32 shaK (wsN l 48) s t).getD 6 0)))] [(0, Blk'.cells 101 8 (Body.els [AV.c (CV.arr IntKind.u32 8 s)])), (1, Blk'.cells 101 8 (Body.els [AV.c (CV.arr IntKind.u32 8 (List.replicate 8 0))])), (2, Blk'.cells 135 64 (Body.els [AV.c (CV.arr IntKind.u32 64 (wsN l 48))]))] 3 185) = some (tkI s l ((89, AV.c (CV.int IntKind.i64 (Nat.cast (R := Int) v'))) :: tkV (rN32 shaK (wsN l 48) s v')) (wsN l 48)) ∧ 64 - v' < 64 - t ∧ v' ≤ 64 else False else False else false = false ∧ some (St.mk [(2, AV.ptr (Base.l 0) 0 8 0), (4, AV.ptr (Base.l 1) 0 8 0), (5, AV.ptr (Base.l 2) 0 64 0), (10, AV.c (CV.int IntKind.u32 ((rN32 shaK (wsN l 48) s t).getD 0 0))), (11, AV.c (CV.int IntKind.u32 ((rN32 shaK (wsN l 48) s t).getD 1 0))), (12, AV.c (CV.int IntKind.u32 ((rN32 shaK (wsN l 48) s t).getD 2 0))), (13, AV.c (CV.int IntKind.u32 ((rN32 shaK (wsN l 48) s t).getD 3 0))), (14, AV.c (CV.int IntKind.u32 ((rN32 shaK (wsN l 48) s t).getD 4 0))), (15, AV.c (CV.int IntKind.u32 ((rN32 shaK (wsN l 48) s t).getD 5 0))), (16, AV.c (CV.int IntKind.u32 ((rN32 shaK (wsN l 48) s t).getD 6 0))), (17, AV.c (CV.int IntKind.u32 ((rN32 shaK (wsN l 48) s t).getD 7 0)))] [(0, Blk'.cells 101 8 (Body.els [AV.c (CV.arr IntKind.u32 8 s)])), (1, Blk'.cells 101 8 (Body.els [AV.c (CV.arr IntKind.u32 8 (List.replicate 8 0))])), (2, Blk'.cells 135 64 (Body.els [AV.c (CV.arr IntKind.u32 64 (wsN l 48))]))] 3 185) = some (tkI s l (tkV (rN32 shaK (wsN l 48) s 64)) (wsN l 48))) (by kernel_rfl) ?_
 simp (disch := omega) only [wi, bndB, loB, hiB, natSub, Nat.mul_one, Nat.zero_add, Int.toNat_natCast]
 refine cond_intro (fun h => ?_) (fun h => ?_)
 ·simp at h
  exact cond_at (by simp; omega) <| cond_at (by simp; omega) ⟨t + 1, by kernel_rfl, by omega, by omega⟩
 ·simp at h
  have e : t = 64 := by omega
  subst e; exact ⟨by simp, by kernel_rfl⟩
noncomputable def takesS : FSpec := fun xs bl => match xs, bl with
 | [.c (.arr .u32 8 s), .c (.ints .u8 l)], [] => some (some (l.length = 64), ⟨.c (.arr .u32 8 (shaTake shaK s l)), [], []⟩)
 | _, _ => none
theorem takes_ok : FnOk CX 110 takesS := by
 refine fnOkF hmo G3_ok (fn := Tryz.f110) (c := bodyOf' Tryz.f110) (by kernel_rfl) (by kernel_rfl) (by kernel_rfl) ?_
 intro xs bl p o hF hp
 unfold takesS at hF
 split at hF
 ·rename_i s l
  injection hF with hF; injection hF with e1 e2; subst e1; subst e2
  refine ⟨Nat.le_of_ble_eq_true (by kernel_rfl), fun X hX hfa => ⟨[(0, loopW 0 [] [2, 4, 5, 1, 21] (tkI s l [(1, .c (.ints .u8 l)), (21, .c (.int .i64 0))] (ws0 l 0)) (l.length = 64) false (tkI s l [] (ws0 l 16))), (2, loopW 0 [] [2, 4, 5, 7] (tkI s l [(7, .c (.int .i64 16))] (wsN l 0)) True false (tkI s l [] (wsN l 48))), (4, loopW 0 [] [2, 4, 5, 89, 10, 11, 12, 13, 14, 15, 16, 17] (tkI s l ((89, .c (.int .i64 0)) :: tkV s) (wsN l 48)) True false (tkI s l (tkV (rN32 shaK (wsN l 48) s 64)) (wsN l 48)))], 999, ?_⟩⟩
  refine kto (q := LOk CX X 0 (loopAt 0 Tryz.f110) (loopW 0 [] [2, 4, 5, 1, 21] (tkI s l [(1, AV.c (CV.ints IntKind.u8 l)), (21, AV.c (CV.int IntKind.i64 0))] (ws0 l 0)) (l.length = 64) false (tkI s l [] (ws0 l 16))) ∧ some (St.mk [(2, AV.ptr (Base.l 0) 0 8 0), (4, AV.ptr (Base.l 1) 0 8 0), (5, AV.ptr (Base.l 2) 0 64 0), (1, AV.c (CV.ints IntKind.u8 l)), (21, AV.c (CV.int IntKind.i64 0))] [(0, Blk'.cells 101 8 (Body.els [AV.c (CV.arr IntKind.u32 8 s)])), (1, Blk'.cells 101 8 (Body.els [AV.c (CV.arr IntKind.u32 8 (List.replicate 8 0))])), (2, Blk'.cells 135 64 (Body.els [AV.c (CV.arr IntKind.u32 64 (List.replicate 64 0))]))] 3 185) = some (tkI s l [(1, AV.c (CV.ints IntKind.u8 l)), (21, AV.c (CV.int IntKind.i64 0))] (ws0 l 0)) ∧ l.length = 64 ∧ LOk CX X 2 (loopAt 2 Tryz.f110) (loopW 0 [] [2, 4, 5, 7] (tkI s l [(7, AV.c (CV.int IntKind.i64 16))] (wsN l 0)) True false (tkI s l [] (wsN l 48))) ∧ some (St.mk [(2, AV.ptr (Base.l 0) 0 8 0), (4, AV.ptr (Base.l 1) 0 8 0), (5, AV.ptr (Base.l 2) 0 64 0), (7, AV.c (CV.int IntKind.i64 16))] [(0, Blk'.cells 101 8 (Body.els [AV.c (CV.arr IntKind.u32 8 s)])), (1, Blk'.cells 101 8 (Body.els [AV.c (CV.arr IntKind.u32 8 (List.replicate 8 0))])), (2, Blk'.cells 135 64 (Body.els [AV.c (CV.arr IntKind.u32 64 (ws0 l 16))]))] 3 185) = some (tkI s l [(7, AV.c (CV.int IntKind.i64 16))] (wsN l 0)) ∧ True ∧ LOk CX X 4 (loopAt 4 Tryz.f110) (loopW 0 [] [2, 4, 5, 89, 10, 11, 12, 13, 14, 15, 16, 17] (tkI s l ((89, AV.c (CV.int IntKind.i64 0)) :: tkV s) (wsN l 48)) True false (tkI s l (tkV (rN32 shaK (wsN l 48) s 64)) (wsN l 48))) ∧ some (St.mk [(2, AV.ptr (Base.l 0) 0 8 0), (4, AV.ptr (Base.l 1) 0 8 0), (5, AV.ptr (Base.l 2) 0 64 0), (89, AV.c (CV.int IntKind.i64 0)), (10, AV.c (CV.int IntKind.u32 (s.getD 0 0))), (11, AV.c (CV.int IntKind.u32 (s.getD 1 0))), (12, AV.c (CV.int IntKind.u32 (s.getD 2 0))), (13, AV.c (CV.int IntKind.u32 (s.getD 3 0))), (14, AV.c (CV.int IntKind.u32 (s.getD 4 0))), (15, AV.c (CV.int IntKind.u32 (s.getD 5 0))), (16, AV.c (CV.int IntKind.u32 (s.getD 6 0))), (17, AV.c (CV.int IntKind.u32 (s.getD 7 0)))] [(0, Blk'.cells 101 8 (Body.els [AV.c (CV.arr IntKind.u32 8 s)])), (1, Blk'.cells 101 8 (Body.els [AV.c (CV.arr IntKind.u32 8 (List.replicate 8 0))])), (2, Blk'.cells 135 64 (Body.els [AV.c (CV.arr IntKind.u32 64 (wsN l 48))]))] 3 185) = some (tkI s l ((89, AV.c (CV.int IntKind.i64 0)) :: tkV s) (wsN l 48)) ∧ True ∧ some (Out.mk (AV.c (CV.arr IntKind.u32 8 (((((((((List.replicate 8 0).set 0 (IntKind.u32.wrap (s.getD 0 0 + (rN32 shaK (wsN l 48) s 64).getD 0 0))).set 1 (IntKind.u32.wrap (s.getD 1 0 + (rN32 shaK (wsN l 48) s 64).getD 1 0))).set 2 (IntKind.u32.wrap (s.getD 2 0 + (rN32 shaK (wsN l 48) s 64).getD 2 0))).set 3 (IntKind.u32.wrap (s.getD 3 0 + (rN32 shaK (wsN l 48) s 64).getD 3 0))).set 4 (IntKind.u32.wrap (s.getD 4 0 + (rN32 shaK (wsN l 48) s 64).getD 4 0))).set 5 (IntKind.u32.wrap (s.getD 5 0 + (rN32 shaK (wsN l 48) s 64).getD 5 0))).set 6 (IntKind.u32.wrap (s.getD 6 0 + (rN32 shaK (wsN l 48) s 64).getD 6 0))).set 7 (IntKind.u32.wrap (s.getD 7 0 + (rN32 shaK (wsN l 48) s 64).getD 7 0))))) [] []) = some (Out.mk (AV.c (CV.arr IntKind.u32 8 (shaTake shaK s l))) [] [])) (by kernel_rfl) ?_
  exact ⟨takes_l0 hX s l, by kernel_rfl, hp, takes_l2 hX s l, by kernel_rfl, trivial, takes_l4 hX s l, by kernel_rfl, trivial, by kernel_rfl⟩
 ·cases hF
end Go.Proofs.YtdcganigfihkjaaGreatDoor
/- The layer sha256: bytes taken in. -/
namespace Go.Proofs.YtdcganigfihkjaaGreatDoor
open Go Go.Ab Go.RowKit Go.Chr
set_option maxRecDepth 100000
noncomputable def G4 : Tab := (110, lift [true, true] takesS) :: G3
theorem G4_ok : TabOk CX G4 := .cons (lift_ok takes_ok _) G3_ok
def dgB (j : Nat) (s : List Int) (k : Nat) (n : Int) : Blk' := .cells 103 10 (.els [.pr (.c (.arr .u32 8 s)) (.pr (.own j 1 k) (.c (.pr (.int .u64 n) .nl)))])
def byB (l : List Int) : Blk' := .cells 5 1 (.ints .u8 l)
def wrI (j : Nat) (s all : List Int) (c : Int) (k : Nat) : St := ⟨[(0, .ptr (.l 0) 0 10 0)], [(0, dgB j (shaRun shaK s all k) (all.length - 64 * k) c), (j, byB (all.drop (64 * k)))], j + 1, 61⟩
theorem write_l1 {X : Snap} (hX : ∀ b L, X.ι b = some L → b < 1) (s all : List Int) (c : Int) : LOk CX X 0 (loopAt 0 Tryz.f87) (loopW 1 [.blk 0 8] [0] (wrI 1 s all c 0) True false (wrI 1 s all c (all.length / 64))) := by
 refine loopW_ok hmo G4_ok (by kernel_rfl) hX [0] [] (wrI 1 s all c) (fun k => 64 * k ≤ all.length) (fun k => all.length - 64 * k) 0 (fun _ => rfl) (fun _ => by omega) ?_
 intro hp k hk hfa
 refine ⟨[], 999, ?_⟩
 refine kto (q := bif decide ((Nat.cast (R := Int) (all.length - 64 * k)) ≥ 64) then bif bndB (all.length - 64 * k) none (some 64) then (List.take 64 (List.drop 0 (List.drop (64 * k) all))).length = 64 ∧ bif bndB (all.length - 64 * k) (some 64) none then ∃ (v' : Nat), some (St.mk [(0, AV.ptr (Base.l 0) 0 10 0)] [(0, Blk'.cells 103 10 (Body.els [(AV.c (CV.arr IntKind.u32 8 (shaTake shaK (shaRun shaK s all k) (List.take 64 (List.drop 0 (List.drop (64 * k) all)))))).pr ((AV.own 1 1 (natSub (hiB (all.length - 64 * k) none) 64)).pr (AV.c ((CV.int IntKind.u64 c).pr CV.nl)))])), (1, Blk'.cells 5 1 (Body.ints IntKind.u8 (List.take (natSub (hiB (all.length - 64 * k) none) 64) (List.drop 64 (List.drop (64 * k) all)))))] 2 61) = some (wrI 1 s all c v') ∧ all.length - 64 * v' < all.length - 64 * k ∧ 64 * v' ≤ all.length else False else False else false = false ∧ some (St.mk [(0, AV.ptr (Base.l 0) 0 10 0)] [(0, Blk'.cells 103 10 (Body.els [(AV.c (CV.arr IntKind.u32 8 (shaRun shaK s all k))).pr ((AV.own 1 1 (all.length - 64 * k)).pr (AV.c ((CV.int IntKind.u64 c).pr CV.nl)))])), (1, Blk'.cells 5 1 (Body.ints IntKind.u8 (List.drop (64 * k) all)))] 2 61) = some (wrI 1 s all c (all.length / 64))) (by kernel_rfl) ?_
 simp only [bndB, loB, hiB, natSub, List.drop_zero]
 refine cond_intro (fun h => ?_) (fun h => ?_)
 ·simp at h
  refine cond_at (by simp; omega) ⟨by simp; omega, cond_at (by simp; omega) ⟨k + 1, ?_, by omega, by omega⟩⟩
  rw [List.drop_drop, List.take_of_length_le (l := all.drop (64 * k + 64)) (by simp; omega), Nat.sub_sub]
  rfl
 ·simp at h
  have e : all.length / 64 = k := by omega
  rw [e]; exact ⟨by simp, rfl⟩
theorem write_l2 {X : Snap} (hX : ∀ b L, X.ι b = some L → b < 2) (s all : List Int) (c : Int) : LOk CX X 0 (loopAt 0 Tryz.f87) (loopW 2 [.blk 0 8] [0] (wrI 2 s all c 0) True false (wrI 2 s all c (all.length / 64))) := by
 refine loopW_ok hmo G4_ok (by kernel_rfl) hX [0] [] (wrI 2 s all c) (fun k => 64 * k ≤ all.length) (fun k => all.length - 64 * k) 0 (fun _ => rfl) (fun _ => by omega) ?_
 intro hp k hk hfa
 refine ⟨[], 999, ?_⟩
 refine kto (q := bif decide ((Nat.cast (R := Int) (all.length - 64 * k)) ≥ 64) then bif bndB (all.length - 64 * k) none (some 64) then (List.take 64 (List.drop 0 (List.drop (64 * k) all))).length = 64 ∧ bif bndB (all.length - 64 * k) (some 64) none then ∃ (v' : Nat), some (St.mk [(0, AV.ptr (Base.l 0) 0 10 0)] [(0, Blk'.cells 103 10 (Body.els [(AV.c (CV.arr IntKind.u32 8 (shaTake shaK (shaRun shaK s all k) (List.take 64 (List.drop 0 (List.drop (64 * k) all)))))).pr ((AV.own 2 1 (natSub (hiB (all.length - 64 * k) none) 64)).pr (AV.c ((CV.int IntKind.u64 c).pr CV.nl)))])), (2, Blk'.cells 5 1 (Body.ints IntKind.u8 (List.take (natSub (hiB (all.length - 64 * k) none) 64) (List.drop 64 (List.drop (64 * k) all)))))] 3 61) = some (wrI 2 s all c v') ∧ all.length - 64 * v' < all.length - 64 * k ∧ 64 * v' ≤ all.length else False else False else false = false ∧ some (St.mk [(0, AV.ptr (Base.l 0) 0 10 0)] [(0, Blk'.cells 103 10 (Body.els [(AV.c (CV.arr IntKind.u32 8 (shaRun shaK s all k))).pr ((AV.own 2 1 (all.length - 64 * k)).pr (AV.c ((CV.int IntKind.u64 c).pr CV.nl)))])), (2, Blk'.cells 5 1 (Body.ints IntKind.u8 (List.drop (64 * k) all)))] 3 61) = some (wrI 2 s all c (all.length / 64))) (by kernel_rfl) ?_
 simp only [bndB, loB, hiB, natSub, List.drop_zero]
 refine cond_intro (fun h => ?_) (fun h => ?_)
 ·simp at h
  refine cond_at (by simp; omega) ⟨by simp; omega, cond_at (by simp; omega) ⟨k + 1, ?_, by omega, by omega⟩⟩
  rw [List.drop_drop, List.take_of_length_le (l := all.drop (64 * k + 64)) (by simp; omega), Nat.sub_sub]
  rfl
 ·simp at h
  have e : all.length / 64 = k := by omega
  rw [e]; exact ⟨by simp, rfl⟩
def cnt64 (n : Int) (k : Nat) : Int := IntKind.u64.wrap (n + IntKind.u64.wrap (k : Int))
def dgOut (j : Nat) (s all : List Int) (c : Int) : Blk' := dgB j (shaRun shaK s all (all.length / 64)) (all.length - 64 * (all.length / 64)) c
noncomputable def shaWriteS : FSpec := fun xs bl => match xs, bl with
 | [.ptr (.l 0) 0 10 0, .c (.ints .u8 l)], [.cells 103 10 (.els [.c (.pr (.arr .u32 8 s) (.pr (.raw (.slice none 0 0)) (.pr (.int .u64 n) .nl)))])] => some (some (l.length ≤ 1000000000), ⟨.t0, [some (dgOut 1 (orFirst shaH s n) l (cnt64 n l.length))], [byB (l.drop (64 * (l.length / 64)))]⟩)
 | [.ptr (.l 0) 0 10 0, .c (.ints .u8 l)], [.cells 103 10 (.els [.pr (.c (.arr .u32 8 s)) (.pr (.own 1 1 k) (.c (.pr (.int .u64 n) .nl)))]), .cells 5 1 (.ints .u8 r)] => some (some (l.length ≤ 1000000000 ∧ r.length ≤ 1000000000), ⟨.t0, [some (dgOut 2 (orFirst shaH s n) (r ++ l) (cnt64 n l.length)), none], [byB ((r ++ l).drop (64 * ((r ++ l).length / 64)))]⟩)
 | _, _ => none
theorem shaWrite_ok : FnOk CX 87 shaWriteS := by
 refine fnOkF hmo G4_ok (fn := Tryz.f87) (c := bodyOf' Tryz.f87) (by kernel_rfl) (by kernel_rfl) (by kernel_rfl) ?_
 intro xs bl p o hF hp
 unfold shaWriteS at hF
 split at hF
 ·rename_i l s n
  injection hF with hF; injection hF with e1 e2; subst e1; subst e2
  refine ⟨Nat.le_of_ble_eq_true (by kernel_rfl), fun X hX hfa => ⟨[(0, loopW 1 [.blk 0 8] [0] (wrI 1 (orFirst shaH s n) l (cnt64 n l.length) 0) True false (wrI 1 (orFirst shaH s n) l (cnt64 n l.length) (l.length / 64)))], 999, ?_⟩⟩
  have hp : l.length ≤ 1000000000 := hp
  refine kto (q := bif n == 0 then bif ((0 + (Body.ints IntKind.u8 l).len) * 1).ble 140737488355328 && (0 + (Body.ints IntKind.u8 l).len).ble 4611686018427387904 then LOk CX X 0 (loopAt 0 Tryz.f87) (loopW 1 [Path.blk 0 8] [0] (wrI 1 (orFirst shaH s n) l (cnt64 n l.length) 0) True false (wrI 1 (orFirst shaH s n) l (cnt64 n l.length) (l.length / 64))) ∧ some (St.mk [(0, AV.ptr (Base.l 0) 0 10 0)] [(0, Blk'.cells 103 10 (Body.els [(AV.c (CV.arr IntKind.u32 8 shaH)).pr ((AV.own 1 1 (Body.ints IntKind.u8 l).len).pr (AV.c ((CV.int IntKind.u64 (IntKind.u64.wrap (n + IntKind.u64.wrap (Nat.cast (R := Int) l.length)))).pr CV.nl)))])), (1, Blk'.cells 5 1 (Body.ints IntKind.u8 l))] 2 61) = some (wrI 1 (orFirst shaH s n) l (cnt64 n l.length) 0) ∧ True ∧ some (Out.mk AV.t0 [some (Blk'.cells 103 10 (Body.els [(AV.c (CV.arr IntKind.u32 8 (shaRun shaK (orFirst shaH s n) l (l.length / 64)))).pr ((AV.own 1 1 (l.length - 64 * (l.length / 64))).pr (AV.c ((CV.int IntKind.u64 (cnt64 n l.length)).pr CV.nl)))]))] [Blk'.cells 5 1 (Body.ints IntKind.u8 (List.drop (64 * (l.length / 64)) l))]) = some (Out.mk AV.t0 [some (dgOut 1 (orFirst shaH s n) l (cnt64 n l.length))] [byB (List.drop (64 * (l.length / 64)) l)]) else False else bif ((0 + (Body.ints IntKind.u8 l).len) * 1).ble 140737488355328 && (0 + (Body.ints IntKind.u8 l).len).ble 4611686018427387904 then LOk CX X 0 (loopAt 0 Tryz.f87) (loopW 1 [Path.blk 0 8] [0] (wrI 1 (orFirst shaH s n) l (cnt64 n l.length) 0) True false (wrI 1 (orFirst shaH s n) l (cnt64 n l.length) (l.length / 64))) ∧ some (St.mk [(0, AV.ptr (Base.l 0) 0 10 0)] [(0, Blk'.cells 103 10 (Body.els [(AV.c (CV.arr IntKind.u32 8 s)).pr ((AV.own 1 1 (Body.ints IntKind.u8 l).len).pr (AV.c ((CV.int IntKind.u64 (IntKind.u64.wrap (n + IntKind.u64.wrap (Nat.cast (R := Int) l.length)))).pr CV.nl)))])), (1, Blk'.cells 5 1 (Body.ints IntKind.u8 l))] 2 61) = some (wrI 1 (orFirst shaH s n) l (cnt64 n l.length) 0) ∧ True ∧ some (Out.mk AV.t0 [some (Blk'.cells 103 10 (Body.els [(AV.c (CV.arr IntKind.u32 8 (shaRun shaK (orFirst shaH s n) l (l.length / 64)))).pr ((AV.own 1 1 (l.length - 64 * (l.length / 64))).pr (AV.c ((CV.int IntKind.u64 (cnt64 n l.length)).pr CV.nl)))]))] [Blk'.cells 5 1 (Body.ints IntKind.u8 (List.drop (64 * (l.length / 64)) l))]) = some (Out.mk AV.t0 [some (dgOut 1 (orFirst shaH s n) l (cnt64 n l.length))] [byB (List.drop (64 * (l.length / 64)) l)]) else False) (by kernel_rfl) ?_
  refine cond_intro (fun h => ?_) (fun h => ?_)
  ·refine cond_at (by simp [Body.len]; omega) ⟨write_l1 hX _ _ _, ?_, trivial, rfl⟩
   unfold orFirst; rw [h]; rfl
  ·refine cond_at (by simp [Body.len]; omega) ⟨write_l1 hX _ _ _, ?_, trivial, rfl⟩
   unfold orFirst; rw [h]; rfl
 ·rename_i l s k n r
  injection hF with hF; injection hF with e1 e2; subst e1; subst e2
  refine ⟨Nat.le_of_ble_eq_true (by kernel_rfl), fun X hX hfa => ⟨[(0, loopW 2 [.blk 0 8] [0] (wrI 2 (orFirst shaH s n) (r ++ l) (cnt64 n l.length) 0) True false (wrI 2 (orFirst shaH s n) (r ++ l) (cnt64 n l.length) ((r ++ l).length / 64)))], 999, ?_⟩⟩
  have hp : l.length ≤ 1000000000 ∧ r.length ≤ 1000000000 := hp
  refine kto (q := bif n == 0 then bif (((Body.ints IntKind.u8 r).len + (Body.ints IntKind.u8 l).len) * 1).ble 140737488355328 && ((Body.ints IntKind.u8 r).len + (Body.ints IntKind.u8 l).len).ble 4611686018427387904 then LOk CX X 0 (loopAt 0 Tryz.f87) (loopW 2 [Path.blk 0 8] [0] (wrI 2 (orFirst shaH s n) (r ++ l) (cnt64 n l.length) 0) True false (wrI 2 (orFirst shaH s n) (r ++ l) (cnt64 n l.length) ((r ++ l).length / 64))) ∧ some (St.mk [(0, AV.ptr (Base.l 0) 0 10 0)] [(0, Blk'.cells 103 10 (Body.els [(AV.c (CV.arr IntKind.u32 8 shaH)).pr ((AV.own 2 1 (Body.ints IntKind.u8 (r ++ l)).len).pr (AV.c ((CV.int IntKind.u64 (IntKind.u64.wrap (n + IntKind.u64.wrap (Nat.cast (R := Int) l.length)))).pr CV.nl)))])), (2, Blk'.cells 5 1 (Body.ints IntKind.u8 (r ++ l)))] 3 61) = some (wrI 2 (orFirst shaH s n) (r ++ l) (cnt64 n l.length) 0) ∧ True ∧ some (Out.mk AV.t0 [some (Blk'.cells 103 10 (Body.els [(AV.c (CV.arr IntKind.u32 8 (shaRun shaK (orFirst shaH s n) (r ++ l) ((r ++ l).length / 64)))).pr ((AV.own 2 1 ((r ++ l).length - 64 * ((r ++ l).length / 64))).pr (AV.c ((CV.int IntKind.u64 (cnt64 n l.length)).pr CV.nl)))])), none] [Blk'.cells 5 1 (Body.ints IntKind.u8 (List.drop (64 * ((r ++ l).length / 64)) (r ++ l)))]) = some (Out.mk AV.t0 [some (dgOut 2 (orFirst shaH s n) (r ++ l) (cnt64 n l.length)), none] [byB (List.drop (64 * ((r ++ l).length / 64)) (r ++ l))]) else False else bif (((Body.ints IntKind.u8 r).len + (Body.ints IntKind.u8 l).len) * 1).ble 140737488355328 && ((Body.ints IntKind.u8 r).len + (Body.ints IntKind.u8 l).len).ble 4611686018427387904 then LOk CX X 0 (loopAt 0 Tryz.f87) (loopW 2 [Path.blk 0 8] [0] (wrI 2 (orFirst shaH s n) (r ++ l) (cnt64 n l.length) 0) True false (wrI 2 (orFirst shaH s n) (r ++ l) (cnt64 n l.length) ((r ++ l).length / 64))) ∧ some (St.mk [(0, AV.ptr (Base.l 0) 0 10 0)] [(0, Blk'.cells 103 10 (Body.els [(AV.c (CV.arr IntKind.u32 8 s)).pr ((AV.own 2 1 (Body.ints IntKind.u8 (r ++ l)).len).pr (AV.c ((CV.int IntKind.u64 (IntKind.u64.wrap (n + IntKind.u64.wrap (Nat.cast (R := Int) l.length)))).pr CV.nl)))])), (2, Blk'.cells 5 1 (Body.ints IntKind.u8 (r ++ l)))] 3 61) = some (wrI 2 (orFirst shaH s n) (r ++ l) (cnt64 n l.length) 0) ∧ True ∧ some (Out.mk AV.t0 [some (Blk'.cells 103 10 (Body.els [(AV.c (CV.arr IntKind.u32 8 (shaRun shaK (orFirst shaH s n) (r ++ l) ((r ++ l).length / 64)))).pr ((AV.own 2 1 ((r ++ l).length - 64 * ((r ++ l).length / 64))).pr (AV.c ((CV.int IntKind.u64 (cnt64 n l.length)).pr CV.nl)))])), none] [Blk'.cells 5 1 (Body.ints IntKind.u8 (List.drop (64 * ((r ++ l).length / 64)) (r ++ l)))]) = some (Out.mk AV.t0 [some (dgOut 2 (orFirst shaH s n) (r ++ l) (cnt64 n l.length)), none] [byB (List.drop (64 * ((r ++ l).length / 64)) (r ++ l))]) else False) (by kernel_rfl) ?_
  refine cond_intro (fun h => ?_) (fun h => ?_)
  ·refine cond_at (by simp [Body.len]; omega) ⟨write_l2 hX _ _ _, ?_, trivial, rfl⟩
   unfold orFirst; rw [h]; rfl
  ·refine cond_at (by simp [Body.len]; omega) ⟨write_l2 hX _ _ _, ?_, trivial, rfl⟩
   unfold orFirst; rw [h]; rfl
 ·cases hF
end Go.Proofs.YtdcganigfihkjaaGreatDoor
/- The layer sha256: the hash. -/
namespace Go.Proofs.YtdcganigfihkjaaGreatDoor
open Go Go.Ab Go.RowKit Go.Chr
set_option maxRecDepth 100000
def hash0 : CV := .arr .u8 32 (List.replicate 32 0)
def hsB (v : CV) : Blk' := .cells 82 32 (.els [.c v])
def smX (s : List Int) (k : Nat) (n : Int) (r S T : List Int) (tl : Nat) (ls : List (Nat × AV)) : St :=
 ⟨(2, .ptr (.l 2) 0 32 0) :: (3, .ptr (.l 3) 0 10 0) :: (4, .own 4 1 tl) :: ls, [(0, dgB 1 s k n), (1, byB r), (2, hsB hash0), (3, dgB 5 S r.length n), (4, byB T)], 6, 102⟩
def smF (s : List Int) (k : Nat) (n : Int) (r S : List Int) : St :=
 ⟨[(2, .ptr (.l 2) 0 32 0), (3, .ptr (.l 3) 0 10 0)], [(0, dgB 1 s k n), (1, byB r), (2, hsB hash0), (3, dgB 4 S r.length n)], 5, 102⟩
def tl0 (r : List Int) (i : Nat) : List Int := r ++ [128] ++ List.replicate i 0
def tl2 (r : List Int) (n : Int) (i : Nat) : List Int := tl0 r (padZ r.length) ++ (len8 n).take i
theorem tl0_len (r : List Int) (i : Nat) : (tl0 r i).length = r.length + 1 + i := by simp [tl0]; omega
theorem tl0_succ (r : List Int) (i : Nat) : tl0 r i ++ [0] = tl0 r (i + 1) := by simp [tl0, List.replicate_succ']
theorem sum_l0 {X : Snap} (hX : ∀ b L, X.ι b = some L → b < 2) (s : List Int) (k : Nat) (n : Int) (r S : List Int) : LOk CX X 0 (loopAt 0 Tryz.f88) (loopW 2 [] [2, 3, 4] (smX s k n r S (tl0 r 0) (tl0 r 0).length []) (r.length ≤ 1000000000) false (smX s k n r S (tl0 r (padZ r.length)) (tl0 r (padZ r.length)).length [])) := by
 refine loopW_ok hmo G4_ok (by kernel_rfl) hX [2, 3, 4] [] (fun i => smX s k n r S (tl0 r i) (tl0 r i).length []) (fun i => i ≤ padZ r.length) (fun i => padZ r.length - i) 0 (fun _ => rfl) (fun _ => by omega) ?_
 intro hp i hi hfa
 refine ⟨[], 999, ?_⟩
 have hl := tl0_len r i
 have hz : padZ r.length < 64 := by unfold padZ; omega
 refine kto (q := bif (Nat.cast (R := Int) (tl0 r i).length).tmod 64 != 56 then bif (((Body.ints IntKind.u8 (tl0 r i)).len + 1) * 1).ble 140737488355328 && ((Body.ints IntKind.u8 (tl0 r i)).len + 1).ble 4611686018427387904 then ∃ (v' : Nat), some (St.mk [(2, AV.ptr (Base.l 2) 0 32 0), (3, AV.ptr (Base.l 3) 0 10 0), (4, AV.own 4 1 (Body.ints IntKind.u8 (tl0 r i ++ [0])).len)] [(0, Blk'.cells 103 10 (Body.els [(AV.c (CV.arr IntKind.u32 8 s)).pr ((AV.own 1 1 k).pr (AV.c ((CV.int IntKind.u64 n).pr CV.nl)))])), (1, Blk'.cells 5 1 (Body.ints IntKind.u8 r)), (2, Blk'.cells 82 32 (Body.els [AV.c (CV.arr IntKind.u8 32 (List.replicate 32 0))])), (3, Blk'.cells 103 10 (Body.els [(AV.c (CV.arr IntKind.u32 8 S)).pr ((AV.own 5 1 r.length).pr (AV.c ((CV.int IntKind.u64 n).pr CV.nl)))])), (4, Blk'.cells 5 1 (Body.ints IntKind.u8 (tl0 r i ++ [0])))] 6 102) = some (smX s k n r S (tl0 r v') (tl0 r v').length []) ∧ padZ r.length - v' < padZ r.length - i ∧ v' ≤ padZ r.length else False else false = false ∧ some (St.mk [(2, AV.ptr (Base.l 2) 0 32 0), (3, AV.ptr (Base.l 3) 0 10 0), (4, AV.own 4 1 (tl0 r i).length)] [(0, Blk'.cells 103 10 (Body.els [(AV.c (CV.arr IntKind.u32 8 s)).pr ((AV.own 1 1 k).pr (AV.c ((CV.int IntKind.u64 n).pr CV.nl)))])), (1, Blk'.cells 5 1 (Body.ints IntKind.u8 r)), (2, Blk'.cells 82 32 (Body.els [AV.c (CV.arr IntKind.u8 32 (List.replicate 32 0))])), (3, Blk'.cells 103 10 (Body.els [(AV.c (CV.arr IntKind.u32 8 S)).pr ((AV.own 5 1 r.length).pr (AV.c ((CV.int IntKind.u64 n).pr CV.nl)))])), (4, Blk'.cells 5 1 (Body.ints IntKind.u8 (tl0 r i)))] 6 102) = some (smX s k n r S (tl0 r (padZ r.length)) (tl0 r (padZ r.length)).length [])) (by kernel_rfl) ?_
 rw [tl0_succ]
 refine cond_intro (fun h => ?_) (fun h => ?_)
 ·rw [hl] at h
  have hi2 : i < padZ r.length := by
   rcases Nat.lt_or_ge i (padZ r.length) with h1 | h1
   ·exact h1
   ·exfalso
    have e : i = padZ r.length := by omega
    subst e
    simp at h
    apply h
    rw [Int.tmod_eq_emod_of_nonneg (by omega)]
    unfold padZ at *; omega
  exact cond_at (by simp [Body.len, hl]; omega) ⟨i + 1, rfl, by omega, by omega⟩
 ·rw [hl] at h
  have e : i = padZ r.length := by
   simp at h
   rw [Int.tmod_eq_emod_of_nonneg (by omega)] at h
   unfold padZ at *; omega
  subst e; exact ⟨by simp, rfl⟩
theorem len8_at (n : Int) {i : Nat} (h : i < 8) : (len8 n)[i]? = some (IntKind.u8.wrap (ishr .u64 (IntKind.u64.wrap (8 * n)) ((56 : Int) - 8 * (i : Int)))) := by
 simp [len8, h]
theorem sum_l2 {X : Snap} (hX : ∀ b L, X.ι b = some L → b < 2) (s : List Int) (k : Nat) (n : Int) (r S : List Int) : LOk CX X 2 (loopAt 2 Tryz.f88) (loopW 2 [] [2, 3, 4, 42] (smX s k n r S (tl0 r (padZ r.length)) (tl0 r (padZ r.length)).length [(42, .c (.int .i64 0))]) (r.length ≤ 1000000000) false (smX s k n r S (shaPad r n) (shaPad r n).length [])) := by
 refine loopW_ok hmo G4_ok (by kernel_rfl) hX [2, 3, 4] [] (fun i => smX s k n r S (tl2 r n i) (tl2 r n i).length [(42, .c (.int .i64 (i : Nat)))]) (fun i => i ≤ 8) (fun i => 8 - i) 0 (fun _ => by simp [tl2]) (fun _ => by omega) ?_
 intro hp i hi hfa
 refine ⟨[], 999, ?_⟩
 have hz : padZ r.length < 64 := by unfold padZ; omega
 have hl : (tl2 r n i).length = r.length + 1 + padZ r.length + i := by simp [tl2, tl0_len, len8_len]; omega
 refine kto (q := bif decide ((Nat.cast (R := Int) i) < 8) then bif decide (0 ≤ IntKind.i64.wrap (56 - IntKind.i64.wrap (8 * (Nat.cast (R := Int) i)))) then bif (((Body.ints IntKind.u8 (tl2 r n i)).len + 1) * 1).ble 140737488355328 && ((Body.ints IntKind.u8 (tl2 r n i)).len + 1).ble 4611686018427387904 then ∃ (v' : Nat), some (St.mk [(2, AV.ptr (Base.l 2) 0 32 0), (3, AV.ptr (Base.l 3) 0 10 0), (4, AV.own 4 1 (Body.ints IntKind.u8 (tl2 r n i ++ [IntKind.u8.wrap (ishr IntKind.u64 (IntKind.u64.wrap (8 * n)) (IntKind.i64.wrap (56 - IntKind.i64.wrap (8 * (Nat.cast (R := Int) i)))))])).len), (42, AV.c (CV.int IntKind.i64 (IntKind.i64.wrap ((Nat.cast (R := Int) i) + 1))))] [(0, Blk'.cells 103 10 (Body.els [(AV.c (CV.arr IntKind.u32 8 s)).pr ((AV.own 1 1 k).pr (AV.c ((CV.int IntKind.u64 n).pr CV.nl)))])), (1, Blk'.cells 5 1 (Body.ints IntKind.u8 r)), (2, Blk'.cells 82 32 (Body.els [AV.c (CV.arr IntKind.u8 32 (List.replicate 32 0))])), (3, Blk'.cells 103 10 (Body.els [(AV.c (CV.arr IntKind.u32 8 S)).pr ((AV.own 5 1 r.length).pr (AV.c ((CV.int IntKind.u64 n).pr CV.nl)))])), (4, Blk'.cells 5 1 (Body.ints IntKind.u8 (tl2 r n i ++ [IntKind.u8.wrap (ishr IntKind.u64 (IntKind.u64.wrap (8 * n)) (IntKind.i64.wrap (56 - IntKind.i64.wrap (8 * (Nat.cast (R := Int) i)))))])))] 6 102) = some (smX s k n r S (tl2 r n v') (tl2 r n v').length [(42, AV.c (CV.int IntKind.i64 (Nat.cast (R := Int) v')))]) ∧ 8 - v' < 8 - i ∧ v' ≤ 8 else False else False else false = false ∧ some (St.mk [(2, AV.ptr (Base.l 2) 0 32 0), (3, AV.ptr (Base.l 3) 0 10 0), (4, AV.own 4 1 (tl2 r n i).length)] [(0, Blk'.cells 103 10 (Body.els [(AV.c (CV.arr IntKind.u32 8 s)).pr ((AV.own 1 1 k).pr (AV.c ((CV.int IntKind.u64 n).pr CV.nl)))])), (1, Blk'.cells 5 1 (Body.ints IntKind.u8 r)), (2, Blk'.cells 82 32 (Body.els [AV.c (CV.arr IntKind.u8 32 (List.replicate 32 0))])), (3, Blk'.cells 103 10 (Body.els [(AV.c (CV.arr IntKind.u32 8 S)).pr ((AV.own 5 1 r.length).pr (AV.c ((CV.int IntKind.u64 n).pr CV.nl)))])), (4, Blk'.cells 5 1 (Body.ints IntKind.u8 (tl2 r n i)))] 6 102) = some (smX s k n r S (shaPad r n) (shaPad r n).length [])) (by kernel_rfl) ?_
 simp (disch := omega) only [wi]
 refine cond_intro (fun h => ?_) (fun h => ?_)
 ·simp at h
  have e : tl2 r n i ++ [IntKind.u8.wrap (ishr .u64 (IntKind.u64.wrap (8 * n)) ((56 : Int) - 8 * (i : Int)))] = tl2 r n (i + 1) := by
   unfold tl2
   rw [List.take_add_one, len8_at n (by omega), List.append_assoc]; rfl
  rw [e]
  exact cond_at (by simp; omega) <| cond_at (by simp [Body.len, hl]; omega) ⟨i + 1, rfl, by omega, by omega⟩
 ·simp at h
  have e : i = 8 := by omega
  subst e
  have e : tl2 r n 8 = shaPad r n := by
   unfold tl2 shaPad tl0
   rw [List.take_of_length_le (by rw [len8_len]; omega)]
  rw [e]
  exact ⟨by simp, rfl⟩
theorem sum_l4 {X : Snap} (hX : ∀ b L, X.ι b = some L → b < 2) (s : List Int) (k : Nat) (n : Int) (r S T : List Int) : LOk CX X 4 (loopAt 4 Tryz.f88) (loopW 2 [.slot 4] [2, 3, 4] (smX s k n r S T T.length []) (T.length % 64 = 0) false (smF s k n r (shaRun shaK S T (T.length / 64)))) := by
 refine loopW_ok hmo G4_ok (by kernel_rfl) hX [2, 3] [] (fun j => smX s k n r (shaRun shaK S T j) (T.drop (64 * j)) (T.length - 64 * j) []) (fun j => 64 * j ≤ T.length) (fun j => T.length - 64 * j) 0 (fun _ => rfl) (fun _ => by omega) ?_
 intro hp j hj hfa
 refine ⟨[], 999, ?_⟩
 refine kto (q := bif decide ((Nat.cast (R := Int) (T.length - 64 * j)) > 0) then bif bndB (T.length - 64 * j) none (some 64) then (List.take 64 (List.drop 0 (List.drop (64 * j) T))).length = 64 ∧ bif bndB (T.length - 64 * j) (some 64) none then ∃ (v' : Nat), some (St.mk [(2, AV.ptr (Base.l 2) 0 32 0), (3, AV.ptr (Base.l 3) 0 10 0), (4, AV.own 4 1 (natSub (hiB (T.length - 64 * j) none) 64))] [(0, Blk'.cells 103 10 (Body.els [(AV.c (CV.arr IntKind.u32 8 s)).pr ((AV.own 1 1 k).pr (AV.c ((CV.int IntKind.u64 n).pr CV.nl)))])), (1, Blk'.cells 5 1 (Body.ints IntKind.u8 r)), (2, Blk'.cells 82 32 (Body.els [AV.c (CV.arr IntKind.u8 32 (List.replicate 32 0))])), (3, Blk'.cells 103 10 (Body.els [(AV.c (CV.arr IntKind.u32 8 (shaTake shaK (shaRun shaK S T j) (List.take 64 (List.drop 0 (List.drop (64 * j) T)))))).pr ((AV.own 5 1 r.length).pr (AV.c ((CV.int IntKind.u64 n).pr CV.nl)))])), (4, Blk'.cells 5 1 (Body.ints IntKind.u8 (List.take (natSub (hiB (T.length - 64 * j) none) 64) (List.drop 64 (List.drop (64 * j) T)))))] 6 102) = some (smX s k n r (shaRun shaK S T v') (List.drop (64 * v') T) (T.length - 64 * v') []) ∧ T.length - 64 * v' < T.length - 64 * j ∧ 64 * v' ≤ T.length else False else False else false = false ∧ some (St.mk [(2, AV.ptr (Base.l 2) 0 32 0), (3, AV.ptr (Base.l 3) 0 10 0)] [(0, Blk'.cells 103 10 (Body.els [(AV.c (CV.arr IntKind.u32 8 s)).pr ((AV.own 1 1 k).pr (AV.c ((CV.int IntKind.u64 n).pr CV.nl)))])), (1, Blk'.cells 5 1 (Body.ints IntKind.u8 r)), (2, Blk'.cells 82 32 (Body.els [AV.c (CV.arr IntKind.u8 32 (List.replicate 32 0))])), (3, Blk'.cells 103 10 (Body.els [(AV.c (CV.arr IntKind.u32 8 (shaRun shaK S T j))).pr ((AV.own 4 1 r.length).pr (AV.c ((CV.int IntKind.u64 n).pr CV.nl)))]))] 5 102) = some (smF s k n r (shaRun shaK S T (T.length / 64)))) (by kernel_rfl) ?_
 simp only [bndB, loB, hiB, natSub, List.drop_zero]
 refine cond_intro (fun h => ?_) (fun h => ?_)
 ·simp at h
  refine cond_at (by simp; omega) ⟨by simp; omega, cond_at (by simp; omega) ⟨j + 1, ?_, by omega, by omega⟩⟩
  rw [List.drop_drop, List.take_of_length_le (l := T.drop (64 * j + 64)) (by simp; omega), Nat.sub_sub]
  rfl
 ·simp at h
  have e : T.length / 64 = j := by omega
  rw [e]; exact ⟨by simp, rfl⟩
noncomputable def shaSumMS : FSpec := fun xs bl => match xs, bl with
 | [.ptr (.l 0) 0 10 0], [.cells 103 10 (.els [.pr (.c (.arr .u32 8 s)) (.pr (.own 1 1 k) (.c (.pr (.int .u64 n) .nl)))]), .cells 5 1 (.ints .u8 r)] => some (some (r.length ≤ 1000000000), ⟨.c (.arr .u8 32 (shaEnd shaK (orFirst shaH s n) r n)), [some (dgB 1 s k n), some (byB r)], []⟩)
 | _, _ => none
theorem shaSumM_ok : FnOk CX 88 shaSumMS := by
 refine fnOkF hmo G4_ok (fn := Tryz.f88) (c := bodyOf' Tryz.f88) (by kernel_rfl) (by kernel_rfl) (by kernel_rfl) ?_
 intro xs bl p o hF hp
 unfold shaSumMS at hF
 split at hF
 ·rename_i s k n r
  injection hF with hF; injection hF with e1 e2; subst e1; subst e2
  have hp : r.length ≤ 1000000000 := hp
  refine ⟨Nat.le_of_ble_eq_true (by kernel_rfl), fun X hX hfa => ⟨[(0, loopW 2 [] [2, 3, 4] (smX s k n r (orFirst shaH s n) (tl0 r 0) (tl0 r 0).length []) (r.length ≤ 1000000000) false (smX s k n r (orFirst shaH s n) (tl0 r (padZ r.length)) (tl0 r (padZ r.length)).length [])), (2, loopW 2 [] [2, 3, 4, 42] (smX s k n r (orFirst shaH s n) (tl0 r (padZ r.length)) (tl0 r (padZ r.length)).length [(42, .c (.int .i64 0))]) (r.length ≤ 1000000000) false (smX s k n r (orFirst shaH s n) (shaPad r n) (shaPad r n).length [])), (4, loopW 2 [.slot 4] [2, 3, 4] (smX s k n r (orFirst shaH s n) (shaPad r n) (shaPad r n).length []) ((shaPad r n).length % 64 = 0) false (smF s k n r (shaRun shaK (orFirst shaH s n) (shaPad r n) ((shaPad r n).length / 64))))], 999, ?_⟩⟩
  refine kto (q := bif ((0 + (Body.ints IntKind.u8 r).len) * 1).ble 140737488355328 && (0 + (Body.ints IntKind.u8 r).len).ble 4611686018427387904 then bif n == 0 then bif (((Body.ints IntKind.u8 r).len + 1) * 1).ble 140737488355328 && ((Body.ints IntKind.u8 r).len + 1).ble 4611686018427387904 then LOk CX X 0 (loopAt 0 Tryz.f88) (loopW 2 [] [2, 3, 4] (smX s k n r (orFirst shaH s n) (tl0 r 0) (tl0 r 0).length []) (r.length ≤ 1000000000) false (smX s k n r (orFirst shaH s n) (tl0 r (padZ r.length)) (tl0 r (padZ r.length)).length [])) ∧ some (St.mk [(2, AV.ptr (Base.l 2) 0 32 0), (3, AV.ptr (Base.l 3) 0 10 0), (4, AV.own 4 1 (Body.ints IntKind.u8 (r ++ [128])).len)] [(0, Blk'.cells 103 10 (Body.els [(AV.c (CV.arr IntKind.u32 8 s)).pr ((AV.own 1 1 k).pr (AV.c ((CV.int IntKind.u64 n).pr CV.nl)))])), (1, Blk'.cells 5 1 (Body.ints IntKind.u8 r)), (2, Blk'.cells 82 32 (Body.els [AV.c (CV.arr IntKind.u8 32 (List.replicate 32 0))])), (3, Blk'.cells 103 10 (Body.els [(AV.c (CV.arr IntKind.u32 8 shaH)).pr ((AV.own 5 1 (Body.ints IntKind.u8 r).len).pr (AV.c ((CV.int IntKind.u64 n).pr CV.nl)))])), (4, Blk'.cells 5 1 (Body.ints IntKind.u8 (r ++ [128])))] 6 102) = some (smX s k n r (orFirst shaH s n) (tl0 r 0) (tl0 r 0).length []) ∧ r.length ≤ 1000000000 ∧ LOk CX X 2 (loopAt 2 Tryz.f88) (loopW 2 [] [2, 3, 4, 42] (smX s k n r (orFirst shaH s n) (tl0 r (padZ r.length)) (tl0 r (padZ r.length)).length [(42, AV.c (CV.int IntKind.i64 0))]) (r.length ≤ 1000000000) false (smX s k n r (orFirst shaH s n) (shaPad r n) (shaPad r n).length [])) ∧ some (St.mk [(2, AV.ptr (Base.l 2) 0 32 0), (3, AV.ptr (Base.l 3) 0 10 0), (4, AV.own 4 1 (tl0 r (padZ r.length)).length), (42, AV.c (CV.int IntKind.i64 0))] [(0, Blk'.cells 103 10 (Body.els [(AV.c (CV.arr IntKind.u32 8 s)).pr ((AV.own 1 1 k).pr (AV.c ((CV.int IntKind.u64 n).pr CV.nl)))])), (1, Blk'.cells 5 1 (Body.ints IntKind.u8 r)), (2, Blk'.cells 82 32 (Body.els [AV.c (CV.arr IntKind.u8 32 (List.replicate 32 0))])), (3, Blk'.cells 103 10 (Body.els [(AV.c (CV.arr IntKind.u32 8 (orFirst shaH s n))).pr ((AV.own 5 1 r.length).pr (AV.c ((CV.int IntKind.u64 n).pr CV.nl)))])), (4, Blk'.cells 5 1 (Body.ints IntKind.u8 (tl0 r (padZ r.length))))] 6 102) = some (smX s k n r (orFirst shaH s n) (tl0 r (padZ r.length)) (tl0 r (padZ r.length)).length [(42, AV.c (CV.int IntKind.i64 0))]) ∧ r.length ≤ 1000000000 ∧ LOk CX X 4 (loopAt 4 Tryz.f88) (loopW 2 [Path.slot 4] [2, 3, 4] (smX s k n r (orFirst shaH s n) (shaPad r n) (shaPad r n).length []) ((shaPad r n).length % 64 = 0) false (smF s k n r (shaRun shaK (orFirst shaH s n) (shaPad r n) ((shaPad r n).length / 64)))) ∧ some (St.mk [(2, AV.ptr (Base.l 2) 0 32 0), (3, AV.ptr (Base.l 3) 0 10 0), (4, AV.own 4 1 (shaPad r n).length)] [(0, Blk'.cells 103 10 (Body.els [(AV.c (CV.arr IntKind.u32 8 s)).pr ((AV.own 1 1 k).pr (AV.c ((CV.int IntKind.u64 n).pr CV.nl)))])), (1, Blk'.cells 5 1 (Body.ints IntKind.u8 r)), (2, Blk'.cells 82 32 (Body.els [AV.c (CV.arr IntKind.u8 32 (List.replicate 32 0))])), (3, Blk'.cells 103 10 (Body.els [(AV.c (CV.arr IntKind.u32 8 (orFirst shaH s n))).pr ((AV.own 5 1 r.length).pr (AV.c ((CV.int IntKind.u64 n).pr CV.nl)))])), (4, Blk'.cells 5 1 (Body.ints IntKind.u8 (shaPad r n)))] 6 102) = some (smX s k n r (orFirst shaH s n) (shaPad r n) (shaPad r n).length []) ∧ (shaPad r n).length % 64 = 0 ∧ some (Out.mk (AV.c (CV.arr IntKind.u8 32 (((((((((((((((((((((((((((((((((List.replicate 32 0).set 0 (IntKind.u8.wrap (ishr IntKind.u32 ((shaRun shaK (orFirst shaH s n) (shaPad r n) ((shaPad r n).length / 64)).getD 0 0) 24))).set 1 (IntKind.u8.wrap (ishr IntKind.u32 ((shaRun shaK (orFirst shaH s n) (shaPad r n) ((shaPad r n).length / 64)).getD 0 0) 16))).set 2 (IntKind.u8.wrap (ishr IntKind.u32 ((shaRun shaK (orFirst shaH s n) (shaPad r n) ((shaPad r n).length / 64)).getD 0 0) 8))).set 3 (IntKind.u8.wrap ((shaRun shaK (orFirst shaH s n) (shaPad r n) ((shaPad r n).length / 64)).getD 0 0))).set 4 (IntKind.u8.wrap (ishr IntKind.u32 ((shaRun shaK (orFirst shaH s n) (shaPad r n) ((shaPad r n).length / 64)).getD 1 0) 24))).set 5 (IntKind.u8.wrap (ishr IntKind.u32 ((shaRun shaK (orFirst shaH s n) (shaPad r n) ((shaPad r n).length / 64)).getD 1 0) 16))).set 6 (IntKind.u8.wrap (ishr IntKind.u32 ((shaRun shaK (orFirst shaH s n) (shaPad r n) ((shaPad r n).length / 64)).getD 1 0) 8))).set 7 (IntKind.u8.wrap ((shaRun shaK (orFirst shaH s n) (shaPad r n) ((shaPad r n).length / 64)).getD 1 0))).set 8 (IntKind.u8.wrap (ishr IntKind.u32 ((shaRun shaK (orFirst shaH s n) (shaPad r n) ((shaPad r n).length / 64)).getD 2 0) 24))).set 9 (IntKind.u8.wrap (ishr IntKind.u32 ((shaRun shaK (orFirst shaH s n) (shaPad r n) ((shaPad r n).length / 64)).getD 2 0) 16))).set 10 (IntKind.u8.wrap (ishr IntKind.u32 ((shaRun shaK (orFirst shaH s n) (shaPad r n) ((shaPad r n).length / 64)).getD 2 0) 8))).set 11 (IntKind.u8.wrap ((shaRun shaK (orFirst shaH s n) (shaPad r n) ((shaPad r n).length / 64)).getD 2 0))).set 12 (IntKind.u8.wrap (ishr IntKind.u32 ((shaRun shaK (orFirst shaH s n) (shaPad r n) ((shaPad r n).length / 64)).getD 3 0) 24))).set 13 (IntKind.u8.wrap (ishr IntKind.u32 ((shaRun shaK (orFirst shaH s n) (shaPad r n) ((shaPad r n).length / 64)).getD 3 0) 16))).set 14 (IntKind.u8.wrap (ishr IntKind.u32 ((shaRun shaK (orFirst shaH s n) (shaPad r n) ((shaPad r n).length / 64)).getD 3 0) 8))).set 15 (IntKind.u8.wrap ((shaRun shaK (orFirst shaH s n) (shaPad r n) ((shaPad r n).length / 64)).getD 3 0))).set 16 (IntKind.u8.wrap (ishr IntKind.u32 ((shaRun shaK (orFirst shaH s n) (shaPad r n) ((shaPad r n).length / 64)).getD 4 0) 24))).set 17 (IntKind.u8.wrap (ishr IntKind.u32 ((shaRun shaK (orFirst shaH s n) (shaPad r n) ((shaPad r n).length / 64)).getD 4 0) 16))).set 18 (IntKind.u8.wrap (ishr IntKind.u32 ((shaRun shaK (orFirst shaH s n) (shaPad r n) ((shaPad r n).length / 64)).getD 4 0) 8))).set 19 (IntKind.u8.wrap ((shaRun shaK (orFirst shaH s n) (shaPad r n) ((shaPad r n).length / 64)).getD 4 0))).set 20 (IntKind.u8.wrap (ishr IntKind.u32 ((shaRun shaK (orFirst shaH s n) (shaPad r n) ((shaPad r n).length / 64)).getD 5 0) 24))).set 21 (IntKind.u8.wrap (ishr IntKind.u32 ((shaRun shaK (orFirst shaH s n) (shaPad r n) ((shaPad r n).length / 64)).getD 5 0) 16))).set 22 (IntKind.u8.wrap (ishr IntKind.u32 ((shaRun shaK (orFirst shaH s n) (shaPad r n) ((shaPad r n).length / 64)).getD 5 0) 8))).set 23 (IntKind.u8.wrap ((shaRun shaK (orFirst shaH s n) (shaPad r n) ((shaPad r n).length / 64)).getD 5 0))).set 24 (IntKind.u8.wrap (ishr IntKind.u32 ((shaRun shaK (orFirst shaH s n) (shaPad r n) ((shaPad r n).length / 64)).getD 6 0) 24))).set 25 (IntKind.u8.wrap (ishr IntKind.u32 ((shaRun shaK (orFirst shaH s n) (shaPad r n) ((shaPad r n).length / 64)).getD 6 0) 16))).set 26 (IntKind.u8.wrap (ishr IntKind.u32 ((shaRun shaK (orFirst shaH s n) (shaPad r n) ((shaPad r n).length / 64)).getD 6 0) 8))).set 27 (IntKind.u8.wrap ((shaRun shaK (orFirst shaH s n) (shaPad r n) ((shaPad r n).length / 64)).getD 6 0))).set 28 (IntKind.u8.wrap (ishr IntKind.u32 ((shaRun shaK (orFirst shaH s n) (shaPad r n) ((shaPad r n).length / 64)).getD 7 0) 24))).set 29 (IntKind.u8.wrap (ishr IntKind.u32 ((shaRun shaK (orFirst shaH s n) (shaPad r n) ((shaPad r n).length / 64)).getD 7 0) 16))).set 30 (IntKind.u8.wrap (ishr IntKind.u32 ((shaRun shaK (orFirst shaH s n) (shaPad r n) ((shaPad r n).length / 64)).getD 7 0) 8))).set 31 (IntKind.u8.wrap ((shaRun shaK (orFirst shaH s n) (shaPad r n) ((shaPad r n).length / 64)).getD 7 0))))) [some (Blk'.cells 103 10 (Body.els [(AV.c (CV.arr IntKind.u32 8 s)).pr ((AV.own 1 1 k).pr (AV.c ((CV.int IntKind.u64 n).pr CV.nl)))])), some (Blk'.cells 5 1 (Body.ints IntKind.u8 r))] []) = some (Out.mk (AV.c (CV.arr IntKind.u8 32 (shaEnd shaK (orFirst shaH s n) r n))) [some (dgB 1 s k n), some (byB r)] []) else False else bif (((Body.ints IntKind.u8 r).len + 1) * 1).ble 140737488355328 && ((Body.ints IntKind.u8 r).len + 1).ble 4611686018427387904 then LOk CX X 0 (loopAt 0 Tryz.f88) (loopW 2 [] [2, 3, 4] (smX s k n r (orFirst shaH s n) (tl0 r 0) (tl0 r 0).length []) (r.length ≤ 1000000000) false (smX s k n r (orFirst shaH s n) (tl0 r (padZ r.length)) (tl0 r (padZ r.length)).length [])) ∧ some (St.mk [(2, AV.ptr (Base.l 2) 0 32 0), (3, AV.ptr (Base.l 3) 0 10 0), (4, AV.own 4 1 (Body.ints IntKind.u8 (r ++ [128])).len)] [(0, Blk'.cells 103 10 (Body.els [(AV.c (CV.arr IntKind.u32 8 s)).pr ((AV.own 1 1 k).pr (AV.c ((CV.int IntKind.u64 n).pr CV.nl)))])), (1, Blk'.cells 5 1 (Body.ints IntKind.u8 r)), (2, Blk'.cells 82 32 (Body.els [AV.c (CV.arr IntKind.u8 32 (List.replicate 32 0))])), (3, Blk'.cells 103 10 (Body.els [(AV.c (CV.arr IntKind.u32 8 s)).pr ((AV.own 5 1 (Body.ints IntKind.u8 r).len).pr (AV.c ((CV.int IntKind.u64 n).pr CV.nl)))])), (4, Blk'.cells 5 1 (Body.ints IntKind.u8 (r ++ [128])))] 6 102) = some (smX s k n r (orFirst shaH s n) (tl0 r 0) (tl0 r 0).length []) ∧ r.length ≤ 1000000000 ∧ LOk CX X 2 (loopAt 2 Tryz.f88) (loopW 2 [] [2, 3, 4, 42] (smX s k n r (orFirst shaH s n) (tl0 r (padZ r.length)) (tl0 r (padZ r.length)).length [(42, AV.c (CV.int IntKind.i64 0))]) (r.length ≤ 1000000000) false (smX s k n r (orFirst shaH s n) (shaPad r n) (shaPad r n).length [])) ∧ some (St.mk [(2, AV.ptr (Base.l 2) 0 32 0), (3, AV.ptr (Base.l 3) 0 10 0), (4, AV.own 4 1 (tl0 r (padZ r.length)).length), (42, AV.c (CV.int IntKind.i64 0))] [(0, Blk'.cells 103 10 (Body.els [(AV.c (CV.arr IntKind.u32 8 s)).pr ((AV.own 1 1 k).pr (AV.c ((CV.int IntKind.u64 n).pr CV.nl)))])), (1, Blk'.cells 5 1 (Body.ints IntKind.u8 r)), (2, Blk'.cells 82 32 (Body.els [AV.c (CV.arr IntKind.u8 32 (List.replicate 32 0))])), (3, Blk'.cells 103 10 (Body.els [(AV.c (CV.arr IntKind.u32 8 (orFirst shaH s n))).pr ((AV.own 5 1 r.length).pr (AV.c ((CV.int IntKind.u64 n).pr CV.nl)))])), (4, Blk'.cells 5 1 (Body.ints IntKind.u8 (tl0 r (padZ r.length))))] 6 102) = some (smX s k n r (orFirst shaH s n) (tl0 r (padZ r.length)) (tl0 r (padZ r.length)).length [(42, AV.c (CV.int IntKind.i64 0))]) ∧ r.length ≤ 1000000000 ∧ LOk CX X 4 (loopAt 4 Tryz.f88) (loopW 2 [Path.slot 4] [2, 3, 4] (smX s k n r (orFirst shaH s n) (shaPad r n) (shaPad r n).length []) ((shaPad r n).length % 64 = 0) false (smF s k n r (shaRun shaK (orFirst shaH s n) (shaPad r n) ((shaPad r n).length / 64)))) ∧ some (St.mk [(2, AV.ptr (Base.l 2) 0 32 0), (3, AV.ptr (Base.l 3) 0 10 0), (4, AV.own 4 1 (shaPad r n).length)] [(0, Blk'.cells 103 10 (Body.els [(AV.c (CV.arr IntKind.u32 8 s)).pr ((AV.own 1 1 k).pr (AV.c ((CV.int IntKind.u64 n).pr CV.nl)))])), (1, Blk'.cells 5 1 (Body.ints IntKind.u8 r)), (2, Blk'.cells 82 32 (Body.els [AV.c (CV.arr IntKind.u8 32 (List.replicate 32 0))])), (3, Blk'.cells 103 10 (Body.els [(AV.c (CV.arr IntKind.u32 8 (orFirst shaH s n))).pr ((AV.own 5 1 r.length).pr (AV.c ((CV.int IntKind.u64 n).pr CV.nl)))])), (4, Blk'.cells 5 1 (Body.ints IntKind.u8 (shaPad r n)))] 6 102) = some (smX s k n r (orFirst shaH s n) (shaPad r n) (shaPad r n).length []) ∧ (shaPad r n).length % 64 = 0 ∧ some (Out.mk (AV.c (CV.arr IntKind.u8 32 (((((((((((((((((((((((((((((((((List.replicate 32 0).set 0 (IntKind.u8.wrap (ishr IntKind.u32 ((shaRun shaK (orFirst shaH s n) (shaPad r n) ((shaPad r n).length / 64)).getD 0 0) 24))).set 1 (IntKind.u8.wrap (ishr IntKind.u32 ((shaRun shaK (orFirst shaH s n) (shaPad r n) ((shaPad r n).length / 64)).getD 0 0) 16))).set 2 (IntKind.u8.wrap (ishr IntKind.u32 ((shaRun shaK (orFirst shaH s n) (shaPad r n) ((shaPad r n).length / 64)).getD 0 0) 8))).set 3 (IntKind.u8.wrap ((shaRun shaK (orFirst shaH s n) (shaPad r n) ((shaPad r n).length / 64)).getD 0 0))).set 4 (IntKind.u8.wrap (ishr IntKind.u32 ((shaRun shaK (orFirst shaH s n) (shaPad r n) ((shaPad r n).length / 64)).getD 1 0) 24))).set 5 (IntKind.u8.wrap (ishr IntKind.u32 ((shaRun shaK (orFirst shaH s n) (shaPad r n) ((shaPad r n).length / 64)).getD 1 0) 16))).set 6 (IntKind.u8.wrap (ishr IntKind.u32 ((shaRun shaK (orFirst shaH s n) (shaPad r n) ((shaPad r n).length / 64)).getD 1 0) 8))).set 7 (IntKind.u8.wrap ((shaRun shaK (orFirst shaH s n) (shaPad r n) ((shaPad r n).length / 64)).getD 1 0))).set 8 (IntKind.u8.wrap (ishr IntKind.u32 ((shaRun shaK (orFirst shaH s n) (shaPad r n) ((shaPad r n).length / 64)).getD 2 0) 24))).set 9 (IntKind.u8.wrap (ishr IntKind.u32 ((shaRun shaK (orFirst shaH s n) (shaPad r n) ((shaPad r n).length / 64)).getD 2 0) 16))).set 10 (IntKind.u8.wrap (ishr IntKind.u32 ((shaRun shaK (orFirst shaH s n) (shaPad r n) ((shaPad r n).length / 64)).getD 2 0) 8))).set 11 (IntKind.u8.wrap ((shaRun shaK (orFirst shaH s n) (shaPad r n) ((shaPad r n).length / 64)).getD 2 0))).set 12 (IntKind.u8.wrap (ishr IntKind.u32 ((shaRun shaK (orFirst shaH s n) (shaPad r n) ((shaPad r n).length / 64)).getD 3 0) 24))).set 13 (IntKind.u8.wrap (ishr IntKind.u32 ((shaRun shaK (orFirst shaH s n) (shaPad r n) ((shaPad r n).length / 64)).getD 3 0) 16))).set 14 (IntKind.u8.wrap (ishr IntKind.u32 ((shaRun shaK (orFirst shaH s n) (shaPad r n) ((shaPad r n).length / 64)).getD 3 0) 8))).set 15 (IntKind.u8.wrap ((shaRun shaK (orFirst shaH s n) (shaPad r n) ((shaPad r n).length / 64)).getD 3 0))).set 16 (IntKind.u8.wrap (ishr IntKind.u32 ((shaRun shaK (orFirst shaH s n) (shaPad r n) ((shaPad r n).length / 64)).getD 4 0) 24))).set 17 (IntKind.u8.wrap (ishr IntKind.u32 ((shaRun shaK (orFirst shaH s n) (shaPad r n) ((shaPad r n).length / 64)).getD 4 0) 16))).set 18 (IntKind.u8.wrap (ishr IntKind.u32 ((shaRun shaK (orFirst shaH s n) (shaPad r n) ((shaPad r n).length / 64)).getD 4 0) 8))).set 19 (IntKind.u8.wrap ((shaRun shaK (orFirst shaH s n) (shaPad r n) ((shaPad r n).length / 64)).getD 4 0))).set 20 (IntKind.u8.wrap (ishr IntKind.u32 ((shaRun shaK (orFirst shaH s n) (shaPad r n) ((shaPad r n).length / 64)).getD 5 0) 24))).set 21 (IntKind.u8.wrap (ishr IntKind.u32 ((shaRun shaK (orFirst shaH s n) (shaPad r n) ((shaPad r n).length / 64)).getD 5 0) 16))).set 22 (IntKind.u8.wrap (ishr IntKind.u32 ((shaRun shaK (orFirst shaH s n) (shaPad r n) ((shaPad r n).length / 64)).getD 5 0) 8))).set 23 (IntKind.u8.wrap ((shaRun shaK (orFirst shaH s n) (shaPad r n) ((shaPad r n).length / 64)).getD 5 0))).set 24 (IntKind.u8.wrap (ishr IntKind.u32 ((shaRun shaK (orFirst shaH s n) (shaPad r n) ((shaPad r n).length / 64)).getD 6 0) 24))).set 25 (IntKind.u8.wrap (ishr IntKind.u32 ((shaRun shaK (orFirst shaH s n) (shaPad r n) ((shaPad r n).length / 64)).getD 6 0) 16))).set 26 (IntKind.u8.wrap (ishr IntKind.u32 ((shaRun shaK (orFirst shaH s n) (shaPad r n) ((shaPad r n).length / 64)).getD 6 0) 8))).set 27 (IntKind.u8.wrap ((shaRun shaK (orFirst shaH s n) (shaPad r n) ((shaPad r n).length / 64)).getD 6 0))).set 28 (IntKind.u8.wrap (ishr IntKind.u32 ((shaRun shaK (orFirst shaH s n) (shaPad r n) ((shaPad r n).length / 64)).getD 7 0) 24))).set 29 (IntKind.u8.wrap (ishr IntKind.u32 ((shaRun shaK (orFirst shaH s n) (shaPad r n) ((shaPad r n).length / 64)).getD 7 0) 16))).set 30 (IntKind.u8.wrap (ishr IntKind.u32 ((shaRun shaK (orFirst shaH s n) (shaPad r n) ((shaPad r n).length / 64)).getD 7 0) 8))).set 31 (IntKind.u8.wrap ((shaRun shaK (orFirst shaH s n) (shaPad r n) ((shaPad r n).length / 64)).getD 7 0))))) [some (Blk'.cells 103 10 (Body.els [(AV.c (CV.arr IntKind.u32 8 s)).pr ((AV.own 1 1 k).pr (AV.c ((CV.int IntKind.u64 n).pr CV.nl)))])), some (Blk'.cells 5 1 (Body.ints IntKind.u8 r))] []) = some (Out.mk (AV.c (CV.arr IntKind.u8 32 (shaEnd shaK (orFirst shaH s n) r n))) [some (dgB 1 s k n), some (byB r)] []) else False else False) (by kernel_rfl) ?_
  refine cond_at (by simp [Body.len]; omega) ?_
  refine cond_intro (fun h => ?_) (fun h => ?_)
  ·refine cond_at (by simp [Body.len]; omega) ⟨sum_l0 hX _ _ _ _ _, ?_, hp, sum_l2 hX _ _ _ _ _, rfl, hp, sum_l4 hX _ _ _ _ _ _, rfl, shaPad_len r n, by kernel_rfl⟩
   simp [orFirst, h, tl0, smX, dgB, byB, hsB, hash0, Body.len]
  ·refine cond_at (by simp [Body.len]; omega) ⟨sum_l0 hX _ _ _ _ _, ?_, hp, sum_l2 hX _ _ _ _ _, rfl, hp, sum_l4 hX _ _ _ _ _ _, rfl, shaPad_len r n, by kernel_rfl⟩
   simp [orFirst, h, tl0, smX, dgB, byB, hsB, hash0, Body.len]
 ·cases hF
end Go.Proofs.YtdcganigfihkjaaGreatDoor
/- The layer sha256: the hash of parts. -/
namespace Go.Proofs.YtdcganigfihkjaaGreatDoor
open Go Go.Ab Go.RowKit Go.Chr
set_option maxRecDepth 100000
noncomputable def G5 : Tab := (87, lift [false, true] shaWriteS) :: (88, lift [false] shaSumMS) :: G4
theorem G5_ok : TabOk CX G5 := .cons (lift_ok shaWrite_ok _) <| .cons (lift_ok shaSumM_ok _) G4_ok
def flt (ls : List (List Int)) (i : Nat) : List Int := (ls.take i).flatten
theorem flt_succ {ls : List (List Int)} {i : Nat} (h : i < ls.length) : flt ls i ++ ls.getD i [] = flt ls (i + 1) := by
 unfold flt
 rw [List.take_add_one, List.getElem?_eq_getElem h, List.flatten_append, List.getD_eq_getElem?_getD, List.getElem?_eq_getElem h]
 simp
theorem flt_all (ls : List (List Int)) : flt ls ls.length = ls.flatten := by unfold flt; rw [List.take_length]
theorem flt_le (ls : List (List Int)) (i : Nat) : (flt ls i).length ≤ ls.flatten.length := by
 have : ls.flatten = flt ls i ++ (ls.drop i).flatten := by unfold flt; rw [← List.flatten_append, List.take_append_drop]
 rw [this, List.length_append]; omega
theorem cnt64_app (m l : List Int) (h : (m ++ l).length ≤ 1000000000) : cnt64 (m.length : Int) l.length = ((m ++ l).length : Int) := by
 unfold cnt64
 rw [List.length_append] at *
 rw [wu64 (x := (l.length : Int)) (by omega), wu64 (by omega)]; omega
def ssI (ls : List (List Int)) (v : Nat × List Int) : St :=
  ⟨[(2, .ptr (.l 0) 0 32 0), (3, .ptr (.l 1) 0 10 0), (6, .c (.rows 1 (.ints .u8) ls)), (7, .c (.int .i64 (ls.length : Nat))), (8, .c (.int .i64 (v.1 : Nat)))],
   [(0, hsB hash0), (1, dgB 2 v.2 (shaRest (flt ls v.1)).length (flt ls v.1).length), (2, byB (shaRest (flt ls v.1)))], 3, 16⟩
def ssF (ls : List (List Int)) (s : List Int) : St :=
 ⟨[(2, .ptr (.l 0) 0 32 0), (3, .ptr (.l 1) 0 10 0)], [(0, hsB hash0), (1, dgB 2 s (shaRest ls.flatten).length ls.flatten.length), (2, byB (shaRest ls.flatten))], 3, 16⟩
def ssZ : Option (TypeId × Nat × Body) := some (5, 1, .ints .u8 [])
theorem ss_l0 {X : Snap} (hX : ∀ b L, X.ι b = some L → b < 0) (ls : List (List Int)) : LOk CX X 0 (loopAt 0 Tryz.f53) (loopW 0 [.blk 1 8 ssZ] [2, 3, 6, 7, 8] (ssI ls (0, List.replicate 8 0)) (ls.flatten.length ≤ 1000000000 ∧ ls.length ≤ 1000000000) false (ssF ls (if List.isEmpty (α := List Int) ls then List.replicate 8 0 else shaSt shaK shaH (List.flatten (α := Int) ls)))) := by
 refine loopW_ok hmo G5_ok (by kernel_rfl) hX [2, 3] [] (ssI ls) (fun v => v.1 ≤ ls.length ∧ (v.1 = 0 → v.2 = List.replicate 8 0) ∧ (v.1 ≠ 0 → v.2 = shaSt shaK shaH (flt ls v.1))) (fun v => ls.length - v.1) (0, List.replicate 8 0) (fun _ => rfl) (fun _ => ⟨by simp, fun _ => rfl, fun h => absurd rfl h⟩) ?_
 rintro hp ⟨i, s⟩ ⟨hi, hs0, hs1⟩ hfa
 dsimp only at hi hs0 hs1
 refine ⟨[], 999, ?_⟩
 refine kto (q := bif decide ((Nat.cast (R := Int) (i, s).fst) < (Nat.cast (R := Int) ls.length)) then bif decide ((Nat.cast (R := Int) (i, s).fst) < (Nat.cast (R := Int) ls.length)) then (List.length (ls.getD (Nat.cast (R := Int) i).toNat []) ≤ 1000000000 ∧ (shaRest (flt ls i)).length ≤ 1000000000) ∧ ∃ (v' : Nat × List Int), some (St.mk [(2, AV.ptr (Base.l 0) 0 32 0), (3, AV.ptr (Base.l 1) 0 10 0), (6, AV.c (CV.rows 1 (Tag.ints IntKind.u8) ls)), (7, AV.c (CV.int IntKind.i64 (Nat.cast (R := Int) ls.length))), (8, AV.c (CV.int IntKind.i64 (IntKind.i64.wrap ((Nat.cast (R := Int) i) + 1))))] [(0, Blk'.cells 82 32 (Body.els [AV.c (CV.arr IntKind.u8 32 (List.replicate 32 0))])), (1, Blk'.cells 103 10 (Body.els [(AV.c (CV.arr IntKind.u32 8 (shaRun shaK (orFirst shaH s (Nat.cast (R := Int) (flt ls i).length)) (shaRest (flt ls i) ++ ls.getD (Nat.cast (R := Int) i).toNat []) ((shaRest (flt ls i) ++ ls.getD (Nat.cast (R := Int) i).toNat []).length / 64)))).pr ((AV.own 2 1 ((shaRest (flt ls i) ++ ls.getD (Nat.cast (R := Int) i).toNat []).length - 64 * ((shaRest (flt ls i) ++ ls.getD (Nat.cast (R := Int) i).toNat []).length / 64))).pr (AV.c ((CV.int IntKind.u64 (cnt64 (Nat.cast (R := Int) (flt ls i).length) (List.length (ls.getD (Nat.cast (R := Int) i).toNat [])))).pr CV.nl)))])), (2, Blk'.cells 5 1 (Body.ints IntKind.u8 (List.drop (64 * ((shaRest (flt ls i) ++ ls.getD (Nat.cast (R := Int) i).toNat []).length / 64)) (shaRest (flt ls i) ++ ls.getD (Nat.cast (R := Int) i).toNat []))))] 3 16) = some (ssI ls v') ∧ ls.length - v'.fst < ls.length - i ∧ v'.fst ≤ ls.length ∧ (v'.fst = 0 → v'.snd = List.replicate 8 0) ∧ (v'.fst ≠ 0 → v'.snd = shaSt shaK shaH (flt ls v'.fst)) else False else false = false ∧ some (St.mk [(2, AV.ptr (Base.l 0) 0 32 0), (3, AV.ptr (Base.l 1) 0 10 0)] [(0, Blk'.cells 82 32 (Body.els [AV.c (CV.arr IntKind.u8 32 (List.replicate 32 0))])), (1, Blk'.cells 103 10 (Body.els [(AV.c (CV.arr IntKind.u32 8 s)).pr ((AV.own 2 1 (shaRest (flt ls i)).length).pr (AV.c ((CV.int IntKind.u64 (Nat.cast (R := Int) (flt ls i).length)).pr CV.nl)))])), (2, Blk'.cells 5 1 (Body.ints IntKind.u8 (shaRest (flt ls i))))] 3 16) = some (ssF ls (if ls.isEmpty = true then List.replicate 8 0 else shaSt shaK shaH ls.flatten))) (by kernel_rfl) ?_
 have hm : flt ls i ≠ [] → s = shaSt shaK shaH (flt ls i) := fun h => hs1 (fun e => h (by rw [e]; rfl))
 have hle := flt_le ls i
 have hrl : (shaRest (flt ls i)).length ≤ (flt ls i).length := by rw [shaRest_len]; omega
 rw [orFirst_st shaK shaH (flt ls i) s hm]
 simp (disch := omega) only [wi, Int.toNat_natCast]
 obtain ⟨e1, e2, e3⟩ := sha_more shaK shaH (flt ls i) (ls.getD i [])
 rw [e1, e2, e3]
 refine cond_intro (fun h => cond_at h ?_) (fun h => ?_)
 ·simp at h
  have e4 := flt_succ h
  have hle2 := flt_le ls (i + 1)
  rw [e4, cnt64_app _ _ (by rw [e4]; omega), e4]
  refine ⟨⟨?_, by omega⟩, (i + 1, shaSt shaK shaH (flt ls (i + 1))), rfl, by show ls.length - (i + 1) < ls.length - i; omega, h, fun h => by simp at h, fun _ => rfl⟩
  rw [← e4, List.length_append] at hle2
  omega
 ·simp at h
  have e : i = ls.length := by
   have hi : i ≤ ls.length := hi
   omega
  subst e
  refine ⟨by simp, ?_⟩
  have e5 : s = if List.isEmpty (α := List Int) ls then List.replicate 8 0 else shaSt shaK shaH (List.flatten (α := Int) ls) := by
   cases ls with
   | nil => exact hs0 rfl
   | cons x ls => rw [← flt_all]; exact hs1 (by simp)
  rw [flt_all, e5]
  rfl
def ssN : St := ⟨[(2, .ptr (.l 0) 0 32 0), (3, .ptr (.l 1) 0 10 0), (6, .c (.raw (.slice none 0 0))), (7, .c (.int .i64 0)), (8, .c (.int .i64 0))], [(0, hsB hash0), (1, dgB 2 (List.replicate 8 0) 0 0), (2, byB [])], 3, 16⟩
def ssNF : St := ⟨[(2, .ptr (.l 0) 0 32 0), (3, .ptr (.l 1) 0 10 0)], [(0, hsB hash0), (1, dgB 2 (List.replicate 8 0) 0 0), (2, byB [])], 3, 16⟩
theorem ss_n0 {X : Snap} (hX : ∀ b L, X.ι b = some L → b < 0) : LOk CX X 0 (loopAt 0 Tryz.f53) (loopW 0 [.blk 1 8 ssZ] [2, 3, 6, 7, 8] ssN True false ssNF) := by
 refine loopW_ok hmo G5_ok (by kernel_rfl) hX [2, 3] [] (fun _ : Nat => ssN) (fun _ => True) (fun v => v) 0 (fun _ => rfl) (fun _ => trivial) ?_
 rintro hp v hv hfa
 refine ⟨[], 999, ?_⟩
 refine kto (q := false = false ∧ some (St.mk [(2, AV.ptr (Base.l 0) 0 32 0), (3, AV.ptr (Base.l 1) 0 10 0)] [(0, Blk'.cells 82 32 (Body.els [AV.c (CV.arr IntKind.u8 32 (List.replicate 32 0))])), (1, Blk'.cells 103 10 (Body.els [(AV.c (CV.arr IntKind.u32 8 (List.replicate 8 0))).pr ((AV.own 2 1 0).pr (AV.c ((CV.int IntKind.u64 0).pr CV.nl)))])), (2, Blk'.cells 5 1 (Body.ints IntKind.u8 []))] 3 16) = some ssNF) (by kernel_rfl) ?_
 exact ⟨by simp, rfl⟩
noncomputable def shaSumS : FSpec := fun xs bl => match xs, bl with
 | [.c (.rows 1 (.ints .u8) ls)], [] => some (some (List.length (List.flatten (α := Int) ls) ≤ 1000000000 ∧ List.length (α := List Int) ls ≤ 1000000000), ⟨.c (.arr .u8 32 (shaF shaK shaH (List.flatten (α := Int) ls))), [], []⟩)
 | [.c (.raw (.slice none 0 0))], [] => some (none, ⟨.c (.arr .u8 32 (shaF shaK shaH [])), [], []⟩)
 | _, _ => none
theorem shaSum_ok : FnOk CX 53 shaSumS := by
 refine fnOkF hmo G5_ok (fn := Tryz.f53) (c := bodyOf' Tryz.f53) (by kernel_rfl) (by kernel_rfl) (by kernel_rfl) ?_
 intro xs bl p o hF hp
 unfold shaSumS at hF
 split at hF
 ·rename_i ls
  injection hF with hF; injection hF with e1 e2; subst e1; subst e2
  have hp : List.length (List.flatten (α := Int) ls) ≤ 1000000000 ∧ List.length (α := List Int) ls ≤ 1000000000 := hp
  refine ⟨Nat.le_of_ble_eq_true (by kernel_rfl), fun X hX hfa => ⟨[(0, loopW 0 [.blk 1 8 ssZ] [2, 3, 6, 7, 8] (ssI ls (0, List.replicate 8 0)) (List.length (List.flatten (α := Int) ls) ≤ 1000000000 ∧ List.length (α := List Int) ls ≤ 1000000000) false (ssF ls (if List.isEmpty (α := List Int) ls then List.replicate 8 0 else shaSt shaK shaH (List.flatten (α := Int) ls))))], 999, ?_⟩⟩
  refine kto (q := LOk CX X 0 (loopAt 0 Tryz.f53) (loopW 0 [Path.blk 1 8 ssZ] [2, 3, 6, 7, 8] (ssI ls (0, List.replicate 8 0)) (ls.flatten.length ≤ 1000000000 ∧ ls.length ≤ 1000000000) false (ssF ls (if ls.isEmpty = true then List.replicate 8 0 else shaSt shaK shaH ls.flatten))) ∧ some (St.mk [(2, AV.ptr (Base.l 0) 0 32 0), (3, AV.ptr (Base.l 1) 0 10 0), (6, AV.c (CV.rows 1 (Tag.ints IntKind.u8) ls)), (7, AV.c (CV.int IntKind.i64 (Nat.cast (R := Int) ls.length))), (8, AV.c (CV.int IntKind.i64 0))] [(0, Blk'.cells 82 32 (Body.els [AV.c (CV.arr IntKind.u8 32 (List.replicate 32 0))])), (1, Blk'.cells 103 10 (Body.els [(AV.c (CV.arr IntKind.u32 8 (List.replicate 8 0))).pr ((AV.own 2 1 0).pr (AV.c ((CV.int IntKind.u64 0).pr CV.nl)))])), (2, Blk'.cells 5 1 (Body.ints IntKind.u8 []))] 3 16) = some (ssI ls (0, List.replicate 8 0)) ∧ (ls.flatten.length ≤ 1000000000 ∧ ls.length ≤ 1000000000) ∧ (shaRest ls.flatten).length ≤ 1000000000 ∧ some (Out.mk (AV.c (CV.arr IntKind.u8 32 (shaEnd shaK (orFirst shaH (if ls.isEmpty = true then (List.replicate 8 0) else shaSt shaK shaH ls.flatten) (Nat.cast (R := Int) ls.flatten.length)) (shaRest ls.flatten) (Nat.cast (R := Int) ls.flatten.length)))) [] []) = some (Out.mk (AV.c (CV.arr IntKind.u8 32 (shaF shaK shaH ls.flatten))) [] [])) (by kernel_rfl) ?_
  have hr : (shaRest (List.flatten (α := Int) ls)).length ≤ 1000000000 := by
   have := hp.1
   rw [shaRest_len]; omega
  refine ⟨ss_l0 hX ls, by kernel_rfl, hp, hr, ?_⟩
  rw [orFirst_st shaK shaH]
  ·rfl
  ·intro h
   rw [if_neg]
   intro h2
   apply h
   rw [List.isEmpty_iff.1 h2]; rfl
 ·skip
  injection hF with hF; injection hF with e1 e2; subst e1; subst e2
  refine ⟨Nat.le_of_ble_eq_true (by kernel_rfl), fun X hX hfa => ⟨[(0, loopW 0 [.blk 1 8 ssZ] [2, 3, 6, 7, 8] ssN True false ssNF)], 999, ?_⟩⟩
  refine kto (q := LOk CX X 0 (loopAt 0 Tryz.f53) (loopW 0 [Path.blk 1 8 ssZ] [2, 3, 6, 7, 8] ssN True false ssNF) ∧ some (St.mk [(2, AV.ptr (Base.l 0) 0 32 0), (3, AV.ptr (Base.l 1) 0 10 0), (6, AV.c (CV.raw (Value.slice none 0 0))), (7, AV.c (CV.int IntKind.i64 0)), (8, AV.c (CV.int IntKind.i64 0))] [(0, Blk'.cells 82 32 (Body.els [AV.c (CV.arr IntKind.u8 32 (List.replicate 32 0))])), (1, Blk'.cells 103 10 (Body.els [(AV.c (CV.arr IntKind.u32 8 (List.replicate 8 0))).pr ((AV.own 2 1 0).pr (AV.c ((CV.int IntKind.u64 0).pr CV.nl)))])), (2, Blk'.cells 5 1 (Body.ints IntKind.u8 []))] 3 16) = some ssN ∧ True ∧ 0 ≤ 1000000000 ∧ some (Out.mk (AV.c (CV.arr IntKind.u8 32 (shaEnd shaK (orFirst shaH (List.replicate 8 0) 0) [] 0))) [] []) = some (Out.mk (AV.c (CV.arr IntKind.u8 32 (shaF shaK shaH []))) [] [])) (by kernel_rfl) ?_
  exact ⟨ss_n0 hX, rfl, trivial, by simp, rfl⟩
 ·cases hF
end Go.Proofs.YtdcganigfihkjaaGreatDoor
/- The layer hmac. -/
namespace Go.Proofs.YtdcganigfihkjaaGreatDoor
open Go Go.Ab Go.RowKit Go.Chr
set_option maxRecDepth 100000
noncomputable def G6 : Tab := (53, lift [true] shaSumS) :: G5
theorem G6_ok : TabOk CX G6 := .cons (lift_ok shaSum_ok _) G5_ok
def a64 (l : List Int) : Blk' := .cells 132 64 (.els [.c (.arr .u8 64 l)])
def maI (ls : List (List Int)) (k : List Int) (i : Nat) (sl : List (Nat × AV)) : St :=
 ⟨(4, .ptr (.l 0) 0 32 0) :: (6, .ptr (.l 1) 0 64 0) :: (7, .ptr (.l 2) 0 64 0) :: (1, .c (.rows 1 (.ints .u8) ls)) :: sl, [(0, hsB hash0), (1, a64 (xorN 54 k i)), (2, a64 (xorN 92 k i))], 3, 56⟩
theorem mac_l0 {X : Snap} (hX : ∀ b L, X.ι b = some L → b < 0) (ls : List (List Int)) (k : List Int) : LOk CX X 0 (loopAt 0 Tryz.f97) (loopW 0 [] [4, 6, 7, 1, 26] (maI ls k 0 [(26, .c (.int .i64 0))]) True false (maI ls k 64 [])) := by
 refine loopW_ok hmo G6_ok (by kernel_rfl) hX [4, 6, 7, 1] [] (fun i : Nat => maI ls k i [(26, .c (.int .i64 (i : Nat)))]) (fun i => i ≤ 64) (fun i => 64 - i) 0 (fun _ => rfl) (fun _ => by omega) ?_
 intro hp i hi hfa
 refine ⟨[], 999, ?_⟩
 refine kto (q := bif decide ((Nat.cast (R := Int) i) < 64) then bif decide ((Nat.cast (R := Int) i) < (Nat.cast (R := Int) 64)) then bif decide ((Nat.cast (R := Int) i) < (Nat.cast (R := Int) 64)) then bif decide ((Nat.cast (R := Int) i) < (Nat.cast (R := Int) 64)) then bif decide ((Nat.cast (R := Int) i) < (Nat.cast (R := Int) 64)) then ∃ (v' : Nat), some (St.mk [(4, AV.ptr (Base.l 0) 0 32 0), (6, AV.ptr (Base.l 1) 0 64 0), (7, AV.ptr (Base.l 2) 0 64 0), (1, AV.c (CV.rows 1 (Tag.ints IntKind.u8) ls)), (26, AV.c (CV.int IntKind.i64 (IntKind.i64.wrap ((Nat.cast (R := Int) i) + 1))))] [(0, Blk'.cells 82 32 (Body.els [AV.c (CV.arr IntKind.u8 32 (List.replicate 32 0))])), (1, Blk'.cells 132 64 (Body.els [AV.c (CV.arr IntKind.u8 64 ((xorN 54 k i).set (0 + (Nat.cast (R := Int) i).toNat * 1) (ixor IntKind.u8 ((xorN 54 k i).getD (0 + (Nat.cast (R := Int) i).toNat * 1) 0) 54)))])), (2, Blk'.cells 132 64 (Body.els [AV.c (CV.arr IntKind.u8 64 ((xorN 92 k i).set (0 + (Nat.cast (R := Int) i).toNat * 1) (ixor IntKind.u8 ((xorN 92 k i).getD (0 + (Nat.cast (R := Int) i).toNat * 1) 0) 92)))]))] 3 56) = some (maI ls k v' [(26, AV.c (CV.int IntKind.i64 (Nat.cast (R := Int) v')))]) ∧ 64 - v' < 64 - i ∧ v' ≤ 64 else False else False else False else False else false = false ∧ some (St.mk [(4, AV.ptr (Base.l 0) 0 32 0), (6, AV.ptr (Base.l 1) 0 64 0), (7, AV.ptr (Base.l 2) 0 64 0), (1, AV.c (CV.rows 1 (Tag.ints IntKind.u8) ls))] [(0, Blk'.cells 82 32 (Body.els [AV.c (CV.arr IntKind.u8 32 (List.replicate 32 0))])), (1, Blk'.cells 132 64 (Body.els [AV.c (CV.arr IntKind.u8 64 (xorN 54 k i))])), (2, Blk'.cells 132 64 (Body.els [AV.c (CV.arr IntKind.u8 64 (xorN 92 k i))]))] 3 56) = some (maI ls k 64 [])) (by kernel_rfl) ?_
 simp (disch := omega) only [wi, Nat.mul_one, Nat.zero_add, Int.toNat_natCast]
 refine cond_intro (fun h => ?_) (fun h => ?_)
 ·simp at h
  repeat (refine cond_at (by simp; omega) ?_)
  exact ⟨i + 1, by kernel_rfl, by omega, by omega⟩
 ·simp at h
  have e : i = 64 := by omega
  subst e; exact ⟨by simp, by kernel_rfl⟩
def mbI (ls : List (List Int)) (inn out : List Int) (v : Nat) : St :=
  ⟨[(4, .ptr (.l 0) 0 32 0), (7, .ptr (.l 1) 0 64 0), (9, .ptr (.l 2) 0 10 0), (42, .c (.rows 1 (.ints .u8) ls)), (43, .c (.int .i64 (ls.length : Nat))), (44, .c (.int .i64 (v : Nat)))],
   [(0, hsB hash0), (1, a64 out), (2, dgB 3 (shaSt shaK shaH (inn ++ flt ls v)) (shaRest (inn ++ flt ls v)).length (inn ++ flt ls v).length), (3, byB (shaRest (inn ++ flt ls v)))], 4, 56⟩
def mbF (ls : List (List Int)) (inn out : List Int) : St :=
  ⟨[(4, .ptr (.l 0) 0 32 0), (7, .ptr (.l 1) 0 64 0), (9, .ptr (.l 2) 0 10 0)],
   [(0, hsB hash0), (1, a64 out), (2, dgB 3 (shaSt shaK shaH (inn ++ ls.flatten)) (shaRest (inn ++ ls.flatten)).length (inn ++ ls.flatten).length), (3, byB (shaRest (inn ++ ls.flatten)))], 4, 56⟩
theorem mac_l2 {X : Snap} (hX : ∀ b L, X.ι b = some L → b < 0) (ls : List (List Int)) (inn out : List Int) : LOk CX X 2 (loopAt 2 Tryz.f97) (loopW 0 [] [4, 7, 9, 42, 43, 44] (mbI ls inn out 0) (ls.flatten.length ≤ 100000000 ∧ ls.length ≤ 100000000 ∧ inn.length = 64) false (mbF ls inn out)) := by
 refine loopW_ok hmo G6_ok (by kernel_rfl) hX [4, 7, 9] [] (mbI ls inn out) (fun i => i ≤ ls.length) (fun i => ls.length - i) 0 (fun _ => rfl) (fun _ => by omega) ?_
 intro hp i hi hfa
 refine ⟨[], 999, ?_⟩
 refine kto (q := bif decide ((Nat.cast (R := Int) i) < (Nat.cast (R := Int) ls.length)) then bif decide ((Nat.cast (R := Int) i) < (Nat.cast (R := Int) ls.length)) then (List.length (ls.getD (Nat.cast (R := Int) i).toNat []) ≤ 1000000000 ∧ (shaRest (inn ++ flt ls i)).length ≤ 1000000000) ∧ ∃ (v' : Nat), some (St.mk [(4, AV.ptr (Base.l 0) 0 32 0), (7, AV.ptr (Base.l 1) 0 64 0), (9, AV.ptr (Base.l 2) 0 10 0), (42, AV.c (CV.rows 1 (Tag.ints IntKind.u8) ls)), (43, AV.c (CV.int IntKind.i64 (Nat.cast (R := Int) ls.length))), (44, AV.c (CV.int IntKind.i64 (IntKind.i64.wrap ((Nat.cast (R := Int) i) + 1))))] [(0, Blk'.cells 82 32 (Body.els [AV.c (CV.arr IntKind.u8 32 (List.replicate 32 0))])), (1, Blk'.cells 132 64 (Body.els [AV.c (CV.arr IntKind.u8 64 out)])), (2, Blk'.cells 103 10 (Body.els [(AV.c (CV.arr IntKind.u32 8 (shaRun shaK (orFirst shaH (shaSt shaK shaH (inn ++ flt ls i)) (Nat.cast (R := Int) (inn ++ flt ls i).length)) (shaRest (inn ++ flt ls i) ++ ls.getD (Nat.cast (R := Int) i).toNat []) ((shaRest (inn ++ flt ls i) ++ ls.getD (Nat.cast (R := Int) i).toNat []).length / 64)))).pr ((AV.own 3 1 ((shaRest (inn ++ flt ls i) ++ ls.getD (Nat.cast (R := Int) i).toNat []).length - 64 * ((shaRest (inn ++ flt ls i) ++ ls.getD (Nat.cast (R := Int) i).toNat []).length / 64))).pr (AV.c ((CV.int IntKind.u64 (cnt64 (Nat.cast (R := Int) (inn ++ flt ls i).length) (List.length (ls.getD (Nat.cast (R := Int) i).toNat [])))).pr CV.nl)))])), (3, Blk'.cells 5 1 (Body.ints IntKind.u8 (List.drop (64 * ((shaRest (inn ++ flt ls i) ++ ls.getD (Nat.cast (R := Int) i).toNat []).length / 64)) (shaRest (inn ++ flt ls i) ++ ls.getD (Nat.cast (R := Int) i).toNat []))))] 4 56) = some (mbI ls inn out v') ∧ ls.length - v' < ls.length - i ∧ v' ≤ ls.length else False else false = false ∧ some (St.mk [(4, AV.ptr (Base.l 0) 0 32 0), (7, AV.ptr (Base.l 1) 0 64 0), (9, AV.ptr (Base.l 2) 0 10 0)] [(0, Blk'.cells 82 32 (Body.els [AV.c (CV.arr IntKind.u8 32 (List.replicate 32 0))])), (1, Blk'.cells 132 64 (Body.els [AV.c (CV.arr IntKind.u8 64 out)])), (2, Blk'.cells 103 10 (Body.els [(AV.c (CV.arr IntKind.u32 8 (shaSt shaK shaH (inn ++ flt ls i)))).pr ((AV.own 3 1 (shaRest (inn ++ flt ls i)).length).pr (AV.c ((CV.int IntKind.u64 (Nat.cast (R := Int) (inn ++ flt ls i).length)).pr CV.nl)))])), (3, Blk'.cells 5 1 (Body.ints IntKind.u8 (shaRest (inn ++ flt ls i))))] 4 56) = some (mbF ls inn out)) (by kernel_rfl) ?_
 have hle := flt_le ls i
 have hle1 := flt_le ls (i + 1)
 have hrl : (shaRest (inn ++ flt ls i)).length ≤ (inn ++ flt ls i).length := by rw [shaRest_len]; omega
 rw [List.length_append] at hrl
 rw [orFirst_st shaK shaH (inn ++ flt ls i) _ (fun _ => rfl)]
 simp (disch := omega) only [wi, Int.toNat_natCast]
 obtain ⟨e1, e2, e3⟩ := sha_more shaK shaH (inn ++ flt ls i) (ls.getD i [])
 rw [e1, e2, e3]
 refine cond_intro (fun h => cond_at h ?_) (fun h => ?_)
 ·simp at h
  have e4 := flt_succ h
  have e5 : inn ++ flt ls i ++ ls.getD i [] = inn ++ flt ls (i + 1) := by rw [List.append_assoc, e4]
  rw [e5, cnt64_app _ _ (by rw [e5, List.length_append]; omega), e5]
  refine ⟨⟨?_, by omega⟩, i + 1, rfl, by omega, h⟩
  rw [← e4, List.length_append] at hle1
  omega
 ·simp at h
  have e : i = ls.length := by omega
  subst e
  rw [flt_all]
  exact ⟨by simp, rfl⟩
theorem mac_start {inn : List Int} (h : inn.length = 64) : shaRun shaK (orFirst shaH (List.replicate 8 0) 0) inn (inn.length / 64) = shaSt shaK shaH inn ∧ List.drop (64 * (inn.length / 64)) inn = shaRest inn ∧ inn.length - 64 * (inn.length / 64) = (shaRest inn).length ∧ cnt64 0 inn.length = (inn.length : Int) := by
 refine ⟨rfl, rfl, by rw [shaRest_len], ?_⟩
 rw [h]; decide
theorem mac_end (m : List Int) : shaEnd shaK (orFirst shaH (shaSt shaK shaH m) (m.length : Int)) (shaRest m) (m.length : Int) = shaF shaK shaH m := by
 rw [orFirst_st shaK shaH m _ (fun _ => rfl)]; rfl
noncomputable def macS : FSpec := fun xs bl => match xs, bl with
 | [.c (.ints .u8 key), .c (.rows 1 (.ints .u8) ls)], [] => some (some (key.length ≤ 100000000 ∧ List.length (List.flatten (α := Int) ls) ≤ 100000000 ∧ List.length (α := List Int) ls ≤ 100000000), ⟨.c (.arr .u8 32 (macF shaK shaH key (List.flatten (α := Int) ls))), [], []⟩)
 | _, _ => none
theorem mac_ok : FnOk CX 97 macS := by
 refine fnOkF hmo G6_ok (fn := Tryz.f97) (c := bodyOf' Tryz.f97) (by kernel_rfl) (by kernel_rfl) (by kernel_rfl) ?_
 intro xs bl p o hF hp
 unfold macS at hF
 split at hF
 ·rename_i key ls
  injection hF with hF; injection hF with e1 e2; subst e1; subst e2
  have hp : key.length ≤ 100000000 ∧ List.length (List.flatten (α := Int) ls) ≤ 100000000 ∧ List.length (α := List Int) ls ≤ 100000000 := hp
  refine ⟨Nat.le_of_ble_eq_true (by kernel_rfl), fun X hX hfa => ⟨[(0, loopW 0 [] [4, 6, 7, 1, 26] (maI ls (key64 shaK shaH key) 0 [(26, .c (.int .i64 0))]) True false (maI ls (key64 shaK shaH key) 64 [])), (2, loopW 0 [] [4, 7, 9, 42, 43, 44] (mbI ls (macIn shaK shaH key) (macOut shaK shaH key) 0) (List.length (List.flatten (α := Int) ls) ≤ 100000000 ∧ List.length (α := List Int) ls ≤ 100000000 ∧ (macIn shaK shaH key).length = 64) false (mbF ls (macIn shaK shaH key) (macOut shaK shaH key)))], 999, ?_⟩⟩
  refine kto (q := bif decide ((Nat.cast (R := Int) key.length) > 64) then ([key].flatten.length ≤ 1000000000 ∧ 1 ≤ 1000000000) ∧ LOk CX X 0 (loopAt 0 Tryz.f97) (loopW 0 [] [4, 6, 7, 1, 26] (maI ls (key64 shaK shaH key) 0 [(26, AV.c (CV.int IntKind.i64 0))]) True false (maI ls (key64 shaK shaH key) 64 [])) ∧ some (St.mk [(4, AV.ptr (Base.l 0) 0 32 0), (6, AV.ptr (Base.l 1) 0 64 0), (7, AV.ptr (Base.l 2) 0 64 0), (1, AV.c (CV.rows 1 (Tag.ints IntKind.u8) ls)), (26, AV.c (CV.int IntKind.i64 0))] [(0, Blk'.cells 82 32 (Body.els [AV.c (CV.arr IntKind.u8 32 (List.replicate 32 0))])), (1, Blk'.cells 132 64 (Body.els [AV.c (CV.arr IntKind.u8 64 (copyL 0 64 (List.replicate 64 0) (shaF shaK shaH [key].flatten)))])), (2, Blk'.cells 132 64 (Body.els [AV.c (CV.arr IntKind.u8 64 (copyL 0 64 (List.replicate 64 0) (shaF shaK shaH [key].flatten)))]))] 3 56) = some (maI ls (key64 shaK shaH key) 0 [(26, AV.c (CV.int IntKind.i64 0))]) ∧ True ∧ (xorN 54 (key64 shaK shaH key) 64).length ≤ 1000000000 ∧ LOk CX X 2 (loopAt 2 Tryz.f97) (loopW 0 [] [4, 7, 9, 42, 43, 44] (mbI ls (macIn shaK shaH key) (macOut shaK shaH key) 0) (ls.flatten.length ≤ 100000000 ∧ ls.length ≤ 100000000 ∧ (macIn shaK shaH key).length = 64) false (mbF ls (macIn shaK shaH key) (macOut shaK shaH key))) ∧ some (St.mk [(4, AV.ptr (Base.l 0) 0 32 0), (7, AV.ptr (Base.l 1) 0 64 0), (9, AV.ptr (Base.l 2) 0 10 0), (42, AV.c (CV.rows 1 (Tag.ints IntKind.u8) ls)), (43, AV.c (CV.int IntKind.i64 (Nat.cast (R := Int) ls.length))), (44, AV.c (CV.int IntKind.i64 0))] [(0, Blk'.cells 82 32 (Body.els [AV.c (CV.arr IntKind.u8 32 (List.replicate 32 0))])), (1, Blk'.cells 132 64 (Body.els [AV.c (CV.arr IntKind.u8 64 (xorN 92 (key64 shaK shaH key) 64))])), (2, Blk'.cells 103 10 (Body.els [(AV.c (CV.arr IntKind.u32 8 (shaRun shaK (orFirst shaH (List.replicate 8 0) 0) (xorN 54 (key64 shaK shaH key) 64) ((xorN 54 (key64 shaK shaH key) 64).length / 64)))).pr ((AV.own 3 1 ((xorN 54 (key64 shaK shaH key) 64).length - 64 * ((xorN 54 (key64 shaK shaH key) 64).length / 64))).pr (AV.c ((CV.int IntKind.u64 (cnt64 0 (xorN 54 (key64 shaK shaH key) 64).length)).pr CV.nl)))])), (3, Blk'.cells 5 1 (Body.ints IntKind.u8 (List.drop (64 * ((xorN 54 (key64 shaK shaH key) 64).length / 64)) (xorN 54 (key64 shaK shaH key) 64))))] 4 56) = some (mbI ls (macIn shaK shaH key) (macOut shaK shaH key) 0) ∧ (ls.flatten.length ≤ 100000000 ∧ ls.length ≤ 100000000 ∧ (macIn shaK shaH key).length = 64) ∧ (shaRest (macIn shaK shaH key ++ ls.flatten)).length ≤ 1000000000 ∧ ([macOut shaK shaH key, shaEnd shaK (orFirst shaH (shaSt shaK shaH (macIn shaK shaH key ++ ls.flatten)) (Nat.cast (R := Int) (macIn shaK shaH key ++ ls.flatten).length)) (shaRest (macIn shaK shaH key ++ ls.flatten)) (Nat.cast (R := Int) (macIn shaK shaH key ++ ls.flatten).length)].flatten.length ≤ 1000000000 ∧ 2 ≤ 1000000000) ∧ some (Out.mk (AV.c (CV.arr IntKind.u8 32 (shaF shaK shaH [macOut shaK shaH key, shaEnd shaK (orFirst shaH (shaSt shaK shaH (macIn shaK shaH key ++ ls.flatten)) (Nat.cast (R := Int) (macIn shaK shaH key ++ ls.flatten).length)) (shaRest (macIn shaK shaH key ++ ls.flatten)) (Nat.cast (R := Int) (macIn shaK shaH key ++ ls.flatten).length)].flatten))) [] []) = some (Out.mk (AV.c (CV.arr IntKind.u8 32 (macF shaK shaH key ls.flatten))) [] []) else LOk CX X 0 (loopAt 0 Tryz.f97) (loopW 0 [] [4, 6, 7, 1, 26] (maI ls (key64 shaK shaH key) 0 [(26, AV.c (CV.int IntKind.i64 0))]) True false (maI ls (key64 shaK shaH key) 64 [])) ∧ some (St.mk [(4, AV.ptr (Base.l 0) 0 32 0), (6, AV.ptr (Base.l 1) 0 64 0), (7, AV.ptr (Base.l 2) 0 64 0), (1, AV.c (CV.rows 1 (Tag.ints IntKind.u8) ls)), (26, AV.c (CV.int IntKind.i64 0))] [(0, Blk'.cells 82 32 (Body.els [AV.c (CV.arr IntKind.u8 32 (List.replicate 32 0))])), (1, Blk'.cells 132 64 (Body.els [AV.c (CV.arr IntKind.u8 64 (copyL 0 64 (List.replicate 64 0) key))])), (2, Blk'.cells 132 64 (Body.els [AV.c (CV.arr IntKind.u8 64 (copyL 0 64 (List.replicate 64 0) key))]))] 3 56) = some (maI ls (key64 shaK shaH key) 0 [(26, AV.c (CV.int IntKind.i64 0))]) ∧ True ∧ (xorN 54 (key64 shaK shaH key) 64).length ≤ 1000000000 ∧ LOk CX X 2 (loopAt 2 Tryz.f97) (loopW 0 [] [4, 7, 9, 42, 43, 44] (mbI ls (macIn shaK shaH key) (macOut shaK shaH key) 0) (ls.flatten.length ≤ 100000000 ∧ ls.length ≤ 100000000 ∧ (macIn shaK shaH key).length = 64) false (mbF ls (macIn shaK shaH key) (macOut shaK shaH key))) ∧ some (St.mk [(4, AV.ptr (Base.l 0) 0 32 0), (7, AV.ptr (Base.l 1) 0 64 0), (9, AV.ptr (Base.l 2) 0 10 0), (42, AV.c (CV.rows 1 (Tag.ints IntKind.u8) ls)), (43, AV.c (CV.int IntKind.i64 (Nat.cast (R := Int) ls.length))), (44, AV.c (CV.int IntKind.i64 0))] [(0, Blk'.cells 82 32 (Body.els [AV.c (CV.arr IntKind.u8 32 (List.replicate 32 0))])), (1, Blk'.cells 132 64 (Body.els [AV.c (CV.arr IntKind.u8 64 (xorN 92 (key64 shaK shaH key) 64))])), (2, Blk'.cells 103 10 (Body.els [(AV.c (CV.arr IntKind.u32 8 (shaRun shaK (orFirst shaH (List.replicate 8 0) 0) (xorN 54 (key64 shaK shaH key) 64) ((xorN 54 (key64 shaK shaH key) 64).length / 64)))).pr ((AV.own 3 1 ((xorN 54 (key64 shaK shaH key) 64).length - 64 * ((xorN 54 (key64 shaK shaH key) 64).length / 64))).pr (AV.c ((CV.int IntKind.u64 (cnt64 0 (xorN 54 (key64 shaK shaH key) 64).length)).pr CV.nl)))])), (3, Blk'.cells 5 1 (Body.ints IntKind.u8 (List.drop (64 * ((xorN 54 (key64 shaK shaH key) 64).length / 64)) (xorN 54 (key64 shaK shaH key) 64))))] 4 56) = some (mbI ls (macIn shaK shaH key) (macOut shaK shaH key) 0) ∧ (ls.flatten.length ≤ 100000000 ∧ ls.length ≤ 100000000 ∧ (macIn shaK shaH key).length = 64) ∧ (shaRest (macIn shaK shaH key ++ ls.flatten)).length ≤ 1000000000 ∧ ([macOut shaK shaH key, shaEnd shaK (orFirst shaH (shaSt shaK shaH (macIn shaK shaH key ++ ls.flatten)) (Nat.cast (R := Int) (macIn shaK shaH key ++ ls.flatten).length)) (shaRest (macIn shaK shaH key ++ ls.flatten)) (Nat.cast (R := Int) (macIn shaK shaH key ++ ls.flatten).length)].flatten.length ≤ 1000000000 ∧ 2 ≤ 1000000000) ∧ some (Out.mk (AV.c (CV.arr IntKind.u8 32 (shaF shaK shaH [macOut shaK shaH key, shaEnd shaK (orFirst shaH (shaSt shaK shaH (macIn shaK shaH key ++ ls.flatten)) (Nat.cast (R := Int) (macIn shaK shaH key ++ ls.flatten).length)) (shaRest (macIn shaK shaH key ++ ls.flatten)) (Nat.cast (R := Int) (macIn shaK shaH key ++ ls.flatten).length)].flatten))) [] []) = some (Out.mk (AV.c (CV.arr IntKind.u8 32 (macF shaK shaH key ls.flatten))) [] [])) (by kernel_rfl) ?_
  have hi := macIn_len shaK shaH key
  have ho := macOut_len shaK shaH key
  have eI : xorN 54 (key64 shaK shaH key) 64 = macIn shaK shaH key := rfl
  have eO : xorN 92 (key64 shaK shaH key) 64 = macOut shaK shaH key := rfl
  have hr : (shaRest (macIn shaK shaH key ++ List.flatten (α := Int) ls)).length ≤ 1000000000 := by
   have := hp.2.1
   rw [shaRest_len, List.length_append, hi]; omega
  obtain ⟨g1, g2, g3, g4⟩ := mac_start hi
  have e0 : macIn shaK shaH key ++ flt ls 0 = macIn shaK shaH key := List.append_nil _
  have eF : (x : List Int) → [macOut shaK shaH key, x].flatten = macOut shaK shaH key ++ x := fun x => by simp
  rw [mac_end, eI, eO, g1, g2, g3, g4, eF]
  refine cond_intro (fun h => ?_) (fun h => ?_)
  ·refine ⟨⟨by simp; omega, by omega⟩, mac_l0 hX _ _, ?_, trivial, by omega, mac_l2 hX _ _ _, ?_, ⟨hp.2.1, hp.2.2, hi⟩, hr, ⟨by rw [List.length_append, ho, shaF_len]; omega, by omega⟩, rfl⟩
   ·have ek : keyF shaK shaH key = shaF shaK shaH [key].flatten := by
     unfold keyF; rw [h]; simp
    show some _ = some _
    unfold maI key64
    rw [ek]; rfl
   ·unfold mbI
    rw [e0]; rfl
  ·refine ⟨mac_l0 hX _ _, ?_, trivial, by omega, mac_l2 hX _ _ _, ?_, ⟨hp.2.1, hp.2.2, hi⟩, hr, ⟨by rw [List.length_append, ho, shaF_len]; omega, by omega⟩, rfl⟩
   ·have ek : keyF shaK shaH key = key := by
     unfold keyF; rw [h]; rfl
    show some _ = some _
    unfold maI key64
    rw [ek]; rfl
   ·unfold mbI
    rw [e0]; rfl
 ·cases hF
end Go.Proofs.YtdcganigfihkjaaGreatDoor
/- The layer hmac: streams. -/
namespace Go.Proofs.YtdcganigfihkjaaGreatDoor
open Go Go.Ab Go.RowKit Go.Chr
set_option maxRecDepth 100000
noncomputable def G7a : Tab := (97, lift [true, true] macS) :: G6
theorem G7a_ok : TabOk CX G7a := .cons (lift_ok mac_ok _) G6_ok
abbrev hmK (k v : List Int) (c : Int) (more : List Int) : List Int := turnK shaK shaH k v c more
abbrev hmV (k v : List Int) (c : Int) (more : List Int) : List Int := turnV shaK shaH k v c more
def stB (k v : List Int) (b : Bool) : Blk' := .cells 113 65 (.els [.c (.pr (.arr .u8 32 k) (.pr (.arr .u8 32 v) (.pr (.bool b) .nl)))])
noncomputable def turnS : FSpec := fun xs bl => match xs, bl with
 | [.ptr (.l 0) 0 65 0, .c (.int .u8 c), .c (.ints .u8 more)], [.cells 113 65 (.els [.c (.pr (.arr .u8 32 k) (.pr (.arr .u8 32 v) (.pr (.bool b) .nl)))])] => some (some (more.length ≤ 10000000), ⟨.t0, [some (stB (hmK k v c more) (hmV k v c more) b)], []⟩)
 | [.ptr (.l 0) 0 65 0, .c (.int .u8 c), .c (.raw (.slice none 0 0))], [.cells 113 65 (.els [.c (.pr (.arr .u8 32 k) (.pr (.arr .u8 32 v) (.pr (.bool b) .nl)))])] => some (none, ⟨.t0, [some (stB (hmK k v c []) (hmV k v c []) b)], []⟩)
 | _, _ => none
theorem turn_ok : FnOk CX 96 turnS := by
 refine fnOkF hmo G7a_ok (fn := Tryz.f96) (c := bodyOf' Tryz.f96) (by kernel_rfl) (by kernel_rfl) (by kernel_rfl) ?_
 intro xs bl p o hF hp
 unfold turnS at hF
 split at hF
 ·rename_i c more k v b
  injection hF with hF; injection hF with e1 e2; subst e1; subst e2
  have hp : more.length ≤ 10000000 := hp
  refine ⟨Nat.le_of_ble_eq_true (by kernel_rfl), fun X hX hfa => ⟨[], 999, ?_⟩⟩
  refine kto (q := (k.length ≤ 100000000 ∧ [v, [c], more].flatten.length ≤ 100000000 ∧ 3 ≤ 100000000) ∧ (32 ≤ 100000000 ∧ [v].flatten.length ≤ 100000000 ∧ 1 ≤ 100000000) ∧ some (Out.mk AV.t0 [some (Blk'.cells 113 65 (Body.els [AV.c ((CV.arr IntKind.u8 32 (macF shaK shaH k [v, [c], more].flatten)).pr ((CV.arr IntKind.u8 32 (macF shaK shaH (macF shaK shaH k [v, [c], more].flatten) [v].flatten)).pr ((CV.bool b).pr CV.nl)))]))] []) = some (Out.mk AV.t0 [some (stB (hmK k v c more) (hmV k v c more) b)] [])) (by kernel_rfl) ?_
  have hk : k.length = 32 := (hfa.h 0 _ rfl 0 _ rfl).1.1
  have hv : v.length = 32 := (hfa.h 0 _ rfl 0 _ rfl).2.1.1
  have e1 : ∀ x : List Int, [x].flatten = x := fun x => by simp
  have e2 : [v, [c], more].flatten = v ++ (c :: more) := by simp
  rw [e1, e2]
  exact ⟨⟨by omega, by simp; omega, by omega⟩, ⟨by omega, by omega, by omega⟩, rfl⟩
 ·rename_i c k v b
  injection hF with hF; injection hF with e1 e2; subst e1; subst e2
  refine ⟨Nat.le_of_ble_eq_true (by kernel_rfl), fun X hX hfa => ⟨[], 999, ?_⟩⟩
  refine kto (q := (k.length ≤ 100000000 ∧ [v, [c], []].flatten.length ≤ 100000000 ∧ 3 ≤ 100000000) ∧ (32 ≤ 100000000 ∧ [v].flatten.length ≤ 100000000 ∧ 1 ≤ 100000000) ∧ some (Out.mk AV.t0 [some (Blk'.cells 113 65 (Body.els [AV.c ((CV.arr IntKind.u8 32 (macF shaK shaH k [v, [c], []].flatten)).pr ((CV.arr IntKind.u8 32 (macF shaK shaH (macF shaK shaH k [v, [c], []].flatten) [v].flatten)).pr ((CV.bool b).pr CV.nl)))]))] []) = some (Out.mk AV.t0 [some (stB (hmK k v c []) (hmV k v c []) b)] [])) (by kernel_rfl) ?_
  have hk : k.length = 32 := (hfa.h 0 _ rfl 0 _ rfl).1.1
  have hv : v.length = 32 := (hfa.h 0 _ rfl 0 _ rfl).2.1.1
  have e1 : ∀ x : List Int, [x].flatten = x := fun x => by simp
  have e2 : [v, [c], []].flatten = v ++ (c :: []) := by simp
  rw [e1, e2]
  exact ⟨⟨by omega, by simp; omega, by omega⟩, ⟨by omega, by omega, by omega⟩, rfl⟩
 ·cases hF
noncomputable def G7b : Tab := (96, lift [false, true, true] turnS) :: G7a
theorem G7b_ok : TabOk CX G7b := .cons (lift_ok turn_ok _) G7a_ok
def nxK (k v : List Int) (b : Bool) : List Int := bif b then hmK k v 0 [] else k
def nxV (k v : List Int) (b : Bool) : List Int := macF shaK shaH (nxK k v b) (bif b then hmV k v 0 [] else v)
noncomputable def nextS : FSpec := fun xs bl => match xs, bl with
 | [.ptr (.l 0) 0 65 0], [.cells 113 65 (.els [.c (.pr (.arr .u8 32 k) (.pr (.arr .u8 32 v) (.pr (.bool b) .nl)))])] => some (none, ⟨.c (.arr .u8 32 (nxV k v b)), [some (stB (nxK k v b) (nxV k v b) true)], []⟩)
 | _, _ => none
theorem next_ok : FnOk CX 60 nextS := by
 refine fnOkF hmo G7b_ok (fn := Tryz.f60) (c := bodyOf' Tryz.f60) (by kernel_rfl) (by kernel_rfl) (by kernel_rfl) ?_
 intro xs bl p o hF hp
 unfold nextS at hF
 split at hF
 ·rename_i k v b
  injection hF with hF; injection hF with e1 e2; subst e1; subst e2
  refine ⟨Nat.le_of_ble_eq_true (by kernel_rfl), fun X hX hfa => ⟨[], 999, ?_⟩⟩
  refine kto (q := bif b then (32 ≤ 100000000 ∧ 32 ≤ 100000000 ∧ 1 ≤ 100000000) ∧ some (Out.mk (AV.c (CV.arr IntKind.u8 32 (macF shaK shaH (hmK k v 0 []) [hmV k v 0 []].flatten))) [some (Blk'.cells 113 65 (Body.els [AV.c ((CV.arr IntKind.u8 32 (hmK k v 0 [])).pr ((CV.arr IntKind.u8 32 (macF shaK shaH (hmK k v 0 []) [hmV k v 0 []].flatten)).pr ((CV.bool true).pr CV.nl)))]))] []) = some (Out.mk (AV.c (CV.arr IntKind.u8 32 (nxV k v b))) [some (stB (nxK k v b) (nxV k v b) true)] []) else (k.length ≤ 100000000 ∧ [v].flatten.length ≤ 100000000 ∧ 1 ≤ 100000000) ∧ some (Out.mk (AV.c (CV.arr IntKind.u8 32 (macF shaK shaH k [v].flatten))) [some (Blk'.cells 113 65 (Body.els [AV.c ((CV.arr IntKind.u8 32 k).pr ((CV.arr IntKind.u8 32 (macF shaK shaH k [v].flatten)).pr ((CV.bool true).pr CV.nl)))]))] []) = some (Out.mk (AV.c (CV.arr IntKind.u8 32 (nxV k v b))) [some (stB (nxK k v b) (nxV k v b) true)] [])) (by kernel_rfl) ?_
  have hk : k.length = 32 := (hfa.h 0 _ rfl 0 _ rfl).1.1
  have hv : v.length = 32 := (hfa.h 0 _ rfl 0 _ rfl).2.1.1
  have e1 : ∀ x : List Int, [x].flatten = x := fun x => by simp
  rw [e1, e1]
  rcases b with _ | _
  ·exact ⟨⟨by omega, by omega, by omega⟩, by kernel_rfl⟩
  ·exact ⟨⟨by omega, by omega, by omega⟩, by kernel_rfl⟩
 ·cases hF
def nwK (all : List Int) : List Int := hmK (hmK (List.replicate 32 0) (List.replicate 32 1) 0 all) (hmV (List.replicate 32 0) (List.replicate 32 1) 0 all) 1 all
def nwV (all : List Int) : List Int := hmV (hmK (List.replicate 32 0) (List.replicate 32 1) 0 all) (hmV (List.replicate 32 0) (List.replicate 32 1) 0 all) 1 all
noncomputable def newSS : FSpec := fun xs bl => match xs, bl with
 | [.c (.rows 1 (.ints .u8) ls)], [] => some (some (List.length (List.flatten (α := Int) ls) ≤ 10000000 ∧ List.length (α := List Int) ls ≤ 10000000), ⟨.ptr (.l 0) 0 65 0, [], [stB (nwK (List.flatten (α := Int) ls)) (nwV (List.flatten (α := Int) ls)) false]⟩)
 | _, _ => none
theorem newS_ok : FnOk CX 95 newSS := by
 refine fnOkF hmo G7b_ok (fn := Tryz.f95) (c := bodyOf' Tryz.f95) (by kernel_rfl) (by kernel_rfl) (by kernel_rfl) ?_
 intro xs bl p o hF hp
 unfold newSS at hF
 split at hF
 ·rename_i ls
  injection hF with hF; injection hF with e1 e2; subst e1; subst e2
  have hp : List.length (List.flatten (α := Int) ls) ≤ 10000000 ∧ List.length (α := List Int) ls ≤ 10000000 := hp
  refine ⟨Nat.le_of_ble_eq_true (by kernel_rfl), fun X hX hfa => ⟨[], 999, ?_⟩⟩
  refine kto (q := (ls.flatten.length ≤ 1000000000 ∧ ls.length ≤ 1000000000) ∧ ls.flatten.length ≤ 10000000 ∧ ls.flatten.length ≤ 10000000 ∧ some (Out.mk (AV.ptr (Base.l 0) 0 65 0) [] [Blk'.cells 113 65 (Body.els [AV.c ((CV.arr IntKind.u8 32 (hmK (hmK (List.replicate 32 0) (((((((((((((((((((((((((((((((((List.replicate 32 0).set 0 1).set 1 1).set 2 1).set 3 1).set 4 1).set 5 1).set 6 1).set 7 1).set 8 1).set 9 1).set 10 1).set 11 1).set 12 1).set 13 1).set 14 1).set 15 1).set 16 1).set 17 1).set 18 1).set 19 1).set 20 1).set 21 1).set 22 1).set 23 1).set 24 1).set 25 1).set 26 1).set 27 1).set 28 1).set 29 1).set 30 1).set 31 1) 0 ls.flatten) (hmV (List.replicate 32 0) (((((((((((((((((((((((((((((((((List.replicate 32 0).set 0 1).set 1 1).set 2 1).set 3 1).set 4 1).set 5 1).set 6 1).set 7 1).set 8 1).set 9 1).set 10 1).set 11 1).set 12 1).set 13 1).set 14 1).set 15 1).set 16 1).set 17 1).set 18 1).set 19 1).set 20 1).set 21 1).set 22 1).set 23 1).set 24 1).set 25 1).set 26 1).set 27 1).set 28 1).set 29 1).set 30 1).set 31 1) 0 ls.flatten) 1 ls.flatten)).pr ((CV.arr IntKind.u8 32 (hmV (hmK (List.replicate 32 0) (((((((((((((((((((((((((((((((((List.replicate 32 0).set 0 1).set 1 1).set 2 1).set 3 1).set 4 1).set 5 1).set 6 1).set 7 1).set 8 1).set 9 1).set 10 1).set 11 1).set 12 1).set 13 1).set 14 1).set 15 1).set 16 1).set 17 1).set 18 1).set 19 1).set 20 1).set 21 1).set 22 1).set 23 1).set 24 1).set 25 1).set 26 1).set 27 1).set 28 1).set 29 1).set 30 1).set 31 1) 0 ls.flatten) (hmV (List.replicate 32 0) (((((((((((((((((((((((((((((((((List.replicate 32 0).set 0 1).set 1 1).set 2 1).set 3 1).set 4 1).set 5 1).set 6 1).set 7 1).set 8 1).set 9 1).set 10 1).set 11 1).set 12 1).set 13 1).set 14 1).set 15 1).set 16 1).set 17 1).set 18 1).set 19 1).set 20 1).set 21 1).set 22 1).set 23 1).set 24 1).set 25 1).set 26 1).set 27 1).set 28 1).set 29 1).set 30 1).set 31 1) 0 ls.flatten) 1 ls.flatten)).pr ((CV.bool false).pr CV.nl)))])]) = some (Out.mk (AV.ptr (Base.l 0) 0 65 0) [] [stB (nwK ls.flatten) (nwV ls.flatten) false])) (by kernel_rfl) ?_
  exact ⟨⟨Nat.le_trans hp.1 (by decide), Nat.le_trans hp.2 (by decide)⟩, hp.1, hp.1, by kernel_rfl⟩
 ·cases hF
end Go.Proofs.YtdcganigfihkjaaGreatDoor
/- The layer p256: what does not loop. -/
namespace Go.Proofs.YtdcganigfihkjaaGreatDoor
open Go Go.Ab Go.RowKit Go.Chr
set_option maxRecDepth 100000
theorem kB0 : kB 0 := by unfold kB; omega
noncomputable def pAddS : FSpec := fun xs bl => match xs, bl with
 | [.c (.nat mm1 x), .c (.nat mm2 y)], [] => bif Nat.beq mm1 two256 && Nat.beq mm2 two256 then some (none, ⟨.c (.nat two256 (fadd 0 x y)), [], []⟩) else none
 | _, _ => none
theorem pAdd_ok : FnOk CX 81 pAddS := by
 refine fnOkF hmo G0_ok (fn := Tryz.f81) (c := bodyOf' Tryz.f81) (by kernel_rfl) (by kernel_rfl) (by kernel_rfl) ?_
 intro xs bl p o hF hp
 unfold pAddS at hF
 split at hF
 ·rename_i mm1 x mm2 y
  obtain ⟨hg, hF⟩ := guard_some hF
  simp only [Bool.and_eq_true] at hg
  have hg0 := beqN hg.1
  have hg1 := beqN hg.2
  subst hg0; subst hg1
  injection hF with hF; injection hF with e1 e2; subst e1; subst e2
  refine ⟨Nat.le_of_ble_eq_true (by kernel_rfl), fun X hX hfa => ⟨[], 999, ?_⟩⟩
  refine kto (q := kB 0 ∧ some (Out.mk (AV.c (CV.nat two256 (fadd 0 x y))) [] []) = some (Out.mk (AV.c (CV.nat two256 (fadd 0 x y))) [] [])) (by kernel_rfl) ?_
  exact ⟨kB0, rfl⟩
 ·cases hF
noncomputable def pSubS : FSpec := fun xs bl => match xs, bl with
 | [.c (.nat mm1 x), .c (.nat mm2 y)], [] => bif Nat.beq mm1 two256 && Nat.beq mm2 two256 then some (none, ⟨.c (.nat two256 (fsub 0 x y)), [], []⟩) else none
 | _, _ => none
theorem pSub_ok : FnOk CX 82 pSubS := by
 refine fnOkF hmo G0_ok (fn := Tryz.f82) (c := bodyOf' Tryz.f82) (by kernel_rfl) (by kernel_rfl) (by kernel_rfl) ?_
 intro xs bl p o hF hp
 unfold pSubS at hF
 split at hF
 ·rename_i mm1 x mm2 y
  obtain ⟨hg, hF⟩ := guard_some hF
  simp only [Bool.and_eq_true] at hg
  have hg0 := beqN hg.1
  have hg1 := beqN hg.2
  subst hg0; subst hg1
  injection hF with hF; injection hF with e1 e2; subst e1; subst e2
  refine ⟨Nat.le_of_ble_eq_true (by kernel_rfl), fun X hX hfa => ⟨[], 999, ?_⟩⟩
  refine kto (q := kB 0 ∧ some (Out.mk (AV.c (CV.nat two256 (fsub 0 x y))) [] []) = some (Out.mk (AV.c (CV.nat two256 (fsub 0 x y))) [] [])) (by kernel_rfl) ?_
  exact ⟨kB0, rfl⟩
 ·cases hF
noncomputable def pMulS : FSpec := fun xs bl => match xs, bl with
 | [.c (.nat mm1 x), .c (.nat mm2 y)], [] => bif Nat.beq mm1 two256 && Nat.beq mm2 two256 then some (none, ⟨.c (.nat two256 (fmul 0 x y)), [], []⟩) else none
 | _, _ => none
theorem pMul_ok : FnOk CX 80 pMulS := by
 refine fnOkF hmo G0_ok (fn := Tryz.f80) (c := bodyOf' Tryz.f80) (by kernel_rfl) (by kernel_rfl) (by kernel_rfl) ?_
 intro xs bl p o hF hp
 unfold pMulS at hF
 split at hF
 ·rename_i mm1 x mm2 y
  obtain ⟨hg, hF⟩ := guard_some hF
  simp only [Bool.and_eq_true] at hg
  have hg0 := beqN hg.1
  have hg1 := beqN hg.2
  subst hg0; subst hg1
  injection hF with hF; injection hF with e1 e2; subst e1; subst e2
  refine ⟨Nat.le_of_ble_eq_true (by kernel_rfl), fun X hX hfa => ⟨[], 999, ?_⟩⟩
  refine kto (q := kB 0 ∧ some (Out.mk (AV.c (CV.nat two256 (fmul 0 x y))) [] []) = some (Out.mk (AV.c (CV.nat two256 (fmul 0 x y))) [] [])) (by kernel_rfl) ?_
  exact ⟨kB0, rfl⟩
 ·cases hF
noncomputable def G1 : Tab := (81, lift [true, true] pAddS) :: (82, lift [true, true] pSubS) :: (80, lift [true, true] pMulS) :: G0
theorem G1_ok : TabOk CX G1 := .cons (lift_ok pAdd_ok _) <| .cons (lift_ok pSub_ok _) <| .cons (lift_ok pMul_ok _) G0_ok
def gX : Nat := 48439561293906451759052585252797914202762949526041747995844080717082404635286
def gY : Nat := 36134250956749795798585127919587881956611106672985015071877198253568414405109
noncomputable def pBaseS : FSpec := fun xs bl => match xs, bl with
 | [], [] => some (none, ⟨.c (.pr (.nat two256 gX) (.pr (.nat two256 gY) (.pr (.bool false) .nl))), [], []⟩)
 | _, _ => none
theorem pBase_ok : FnOk CX 21 pBaseS := by
 refine fnOkF hmo G1_ok (fn := Tryz.f21) (c := bodyOf' Tryz.f21) (by kernel_rfl) (by kernel_rfl) (by kernel_rfl) ?_
 intro xs bl p o hF hp
 unfold pBaseS at hF
 split at hF
 ·skip
  injection hF with hF; injection hF with e1 e2; subst e1; subst e2
  refine ⟨Nat.le_of_ble_eq_true (by kernel_rfl), fun X hX hfa => ⟨[], 999, ?_⟩⟩
  refine kto (q := some (Out.mk (AV.c ((CV.nat two256 48439561293906451759052585252797914202762949526041747995844080717082404635286).pr ((CV.nat two256 36134250956749795798585127919587881956611106672985015071877198253568414405109).pr ((CV.bool false).pr CV.nl)))) [] []) = some (Out.mk (AV.c ((CV.nat two256 gX).pr ((CV.nat two256 gY).pr ((CV.bool false).pr CV.nl)))) [] [])) (by kernel_rfl) ?_
  rfl
 ·cases hF
end Go.Proofs.YtdcganigfihkjaaGreatDoor
